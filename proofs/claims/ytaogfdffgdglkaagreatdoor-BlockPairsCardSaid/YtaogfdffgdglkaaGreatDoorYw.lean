/- What is proved: a part of the walk of the program and of its plain laws; no condition beside those that each theorem names. -/
import Derived.Test.YtaogfdffgdglkaaGreatDoorYa
import Derived.Test.YtaogfdffgdglkaaGreatDoorYs
import Derived.Test.YtaogfdffgdglkaaGreatDoorYv
import Derived.Deep.RegionHeld3
import Derived.OrdersIn
import Derived.RangeFuncCalls
import Derived.RowKit
import Derived.Stop.RegionWithIn
import Derived.Deep.AppendLies
namespace Go.Proofs.YtaogfdffgdglkaaGreatDoor
open Go Go.RowKit Go.Lib
set_option linter.unusedSimpArgs false
set_option linter.unusedVariables false
section
set_option maxRecDepth 100000
set_option maxHeartbeats 4000000
open Go Go.RowKit
def Uk {α : Type} (bad : List α -> Prop) (P : Program) (gf : Nat) (lb : Array Value) (encs : α -> Array Value) (C K : Nat -> Prop) (n₀ : Nat) (Adm : List α -> α -> World -> World -> Prop) (Fin : List α -> World -> Prop) (St : World -> Prop) : Prop :=
 ∀ (l : Nat) (J Jx : List α -> World -> Prop) (W : World), St W -> (∀ s X Y, J s X -> Af C W.heap.size X Y -> J s Y) -> (∀ s X Y, Jx s X -> Af C W.heap.size X Y -> Jx s Y) -> (∀ s X, bad s -> ¬ J s X) →
  (∀ pre x W0 W1, J pre W0 -> Af C W.heap.size W0 W1 -> Adm pre x W0 W1 -> YieldAt Fence.wide 0 P l (encs x) W1 fun e W' =>
   (e = .returned (.bool true) /\ J (pre ++ [x]) W' /\ Ag Obj.isWalk K n₀ W1 W') \/ (e = .returned (.bool false) /\ Jx (pre ++ [x]) W' /\ Ag Obj.isWalk K n₀ W1 W')) →
  J [] W →
  CallsIn Fence.wide 0 P gf (#[.func (.yield l) #[] #[]] ++ lb) W fun e W' => (∃ v, e = .returned v) /\ ((∃ xs, J xs W' /\ Fin xs W') \/ ∃ pre, Jx pre W')
def Pe {α : Type} (K : Nat -> Prop) (n₀ : Nat) (I : List α -> World -> Prop) (Ix : Code -> List α -> World -> Prop) (s : List α) (W : World) : Exit -> Act -> World -> Prop
 | .normal, _, W' => Ag Av K n₀ W W' /\ I s W'
 | .ret, _, W' => Ag Av K n₀ W W' /\ Ix .ret s W'
 | .exit id, _, W' => Ag Av K n₀ W W' /\ Ix (.exit id) s W'
 | .goto t, _, W' => Ag Av K n₀ W W' /\ Ix (.goto t) s W'
 | .panic _, _, _ => False
 | .outgrown, _, _ => False
variable {P : Program}
theorem Ft {α : Type} {bad : List α -> Prop} {g : Operand} {ps : Array Tmp} {assign body : Code} {Q : Exit -> Act -> World -> Prop} {a : Act} {w : World}
  {gf : Nat} {lb : Array Value} (hg : a.eval g = .func (.func gf) #[] lb) (eg : ∀ args w, (callFunc gf args).run P w = .ok (.enter gf args) w)
  {encs : α -> Array Value} {C K : Nat -> Prop} {n₀ : Nat} {Adm : List α -> α -> World -> World -> Prop} {Fin : List α -> World -> Prop} {St : World -> Prop} (hseq : Uk bad P gf lb encs C K n₀ Adm Fin St)
  (hst : ∀ Y, Below w.heap.size w Y -> w.heap.size + 2 <= Y.heap.size -> St Y) (hC : ∀ k, C k -> k < w.heap.size) (hKD : ¬ K w.heap.size) (hKl : ¬ K (w.heap.size + 1)) (hn : n₀ <= w.heap.size) (hps : ∀ x, (encs x).size = ps.size)
  (I : List α -> World -> Prop) (Ix : Code -> List α -> World -> Prop) (hF : ∀ s X Y, Fin s X -> Af (fun _ => False) w.heap.size X Y -> Fin s Y) (hI : ∀ s X Y, I s X -> Af C w.heap.size X Y -> I s Y) (hIx : ∀ c s X Y, Ix c s X -> Af C w.heap.size X Y -> Ix c s Y) (hbad : ∀ s X, bad s -> ¬ I s X) (h0 : I [] w)
  (hround : ∀ (l : Nat) (pre : List α) (x : α) (W0 W : World), w.heap.size <= l -> I pre W0 -> Af C w.heap.size W0 W -> Adm pre x W0 W →
   assign.wpIn (Fence.wide.inRound l) 0 P (Exit.then (fun a' W' => Ag Av K n₀ W W' /\ ∀ Wb, Af C w.heap.size W' Wb -> (∃ r, Wb.heap[l]? = some (.loop r)) -> body.wpIn (Fence.wide.inRound l) 0 P (Pe K n₀ I Ix (pre ++ [x]) Wb) a' Wb) (fun _ _ _ => False))
    { tmps := (ps.zip (encs x)).foldl (fun t (p, v) => t.setIfInBounds p v) a.tmps, defers := [] } W)
  (hdone : ∀ (D : Nat) (xs : List α) (W : World), w.heap.size <= D -> I xs W -> Fin xs W -> W.heap[D]? = some (.deferred (some [])) -> Q .normal { a with defers := { target := .collected D, args := #[] } :: a.defers } W)
  (hstop : ∀ (D : Nat) (c : Code) (pre : List α) (W : World), w.heap.size <= D -> Ix c pre W -> W.heap[D]? = some (.deferred (some [])) -> c.wpIn Fence.wide 0 P Q { a with defers := { target := .collected D, args := #[] } :: a.defers } W) :
  (Code.rangeFunc g ps assign body).wpIn Fence.wide 0 P Q a w := by
 refine wpIn_rangeFunc (fun fn hfn => ?_)
 obtain ⟨rec, hrec⟩ : ∃ rec : LoopState -> Option Code -> Loop, rec = fun st pe => { state := st, pending := pe, fn, tmps := a.tmps, params := ps, assign, body, defers := w.heap.size } := ⟨_, rfl⟩
 obtain ⟨W1, hW1⟩ : ∃ W1, (w.alloc (.deferred (some []))).alloc (.loop (rec .ready none)) = W1 := ⟨_, rfl⟩
 have hz1 : W1.heap.size = w.heap.size + 1 + 1 := by rw [<- hW1]; simp
 have hL1 : W1.heap[w.heap.size + 1]? = some (.loop (rec .ready none)) := by
  rw [<- hW1]; have := Wn (w.alloc (.deferred (some []))) (.loop (rec .ready none)); rwa [World.size_alloc] at this
 have hD1 : W1.heap[w.heap.size]? = some (.deferred (some [])) := by
  rw [<- hW1]; exact (Below.heap_alloc _ _ _ (by simp)).trans (Wn w _)
 have hB1 : Below w.heap.size w W1 := by
  rw [<- hW1]; exact ((Bq _ w).alloc Nr _).alloc (by simp) _
 have hI1 : I [] W1 := by rw [<- hW1]; exact hI _ _ _ (hI _ _ _ h0 (Af.alloc _ _)) (Af.alloc _ _)
 have hCl : ¬ C (w.heap.size + 1) := fun h => by have := hC _ h; omega
 have hCD : ¬ C w.heap.size := fun h => by have := hC _ h; omega
 refine ⟨w.heap.size + 1, [{ target := .collected w.heap.size, args := #[] }], W1, { target := .fn (.func gf) lb, args := #[.func (.yield (w.heap.size + 1)) #[] #[]] }, W1, gf,
  #[.func (.yield (w.heap.size + 1)) #[] #[]] ++ lb, W1, ?_, ?_, ?_, ?_, fun h => by simp [Fence.wide] at h, ?_⟩
 ·rw [<- hW1, hrec]; exact run_enterLoop_outer _ _ _ _ _
 ·simp only [resolve, hg]
  simp [go_sem]
 ·intro f' _; trivial
 ·simp [invoke, go_sem, eg]
 refine (hseq (w.heap.size + 1)
  (fun pre W => I pre W /\ W.heap[w.heap.size + 1]? = some (.loop (rec .ready none)) /\ W.heap[w.heap.size]? = some (.deferred (some [])))
  (fun pre W => ∃ c, Ix c pre W /\ W.heap[w.heap.size + 1]? = some (.loop (rec .done (some c))) /\ W.heap[w.heap.size]? = some (.deferred (some [])))
  W1 (hst _ hB1 (by omega))
  (fun s X Y hs ht => ⟨hI _ _ _ hs.1 (ht.mono (by omega)), ht.old hs.2.1 hCl (by omega), ht.old hs.2.2 hCD (by omega)⟩)
  (fun s X Y hs ht => by
   obtain ⟨c, hc, hl, hk⟩ := hs
   exact ⟨c, hIx _ _ _ _ hc (ht.mono (by omega)), ht.old hl hCl (by omega), ht.old hk hCD (by omega)⟩)
  (fun s X hb hj => hbad s X hb hj.1) ?_ ⟨hI1, hL1, hD1⟩).mono ?_
 ·rintro pre x W0 W ⟨hi, hl, hk⟩ htn hpre
  replace hl := htn.old hl hCl (by omega)
  replace hk := htn.old hk hCD (by omega)
  replace htn := htn.mono (B' := w.heap.size) (by omega)
  have hy := run_yield (P := P) (args := encs x) hl (by rw [hrec]; exact hps x)
  rw [hrec] at hy
  refine ⟨fn, _, assign, body, hy, roundIn_of_wpIn hfn (wpIn_mono (hround _ pre x W0 W (by omega) hi htn hpre) ?_)⟩
  clear hy
  intro e0 a' Wa he0
  cases e0 with
  | normal => ?_
  | _ => exact he0.elim
  obtain ⟨hka, hbd⟩ := he0
  have hla : Wa.heap[w.heap.size + 1]? = some (.loop (rec .ready none)) := hka.heap hl (.inr (.inr rfl))
  have hDa : Wa.heap[w.heap.size]? = some (.deferred (some [])) := hka.heap hk (.inr (.inr rfl))
  have hlt : w.heap.size + 1 < Wa.heap.size := (Gl hla)
  refine ⟨_, run_beginRound hla (by rw [hrec]), ?_⟩
  obtain ⟨Wb, hWb⟩ : ∃ Wb, Wa.putObj (w.heap.size + 1) (.loop { rec .ready none with state := .busy }) = Wb := ⟨_, rfl⟩
  have hl2 : Wb.heap[w.heap.size + 1]? = some (.loop { rec .ready none with state := .busy }) := by rw [<- hWb]; exact World.putObj_heap_same hlt
  have hD2 : Wb.heap[w.heap.size]? = some (.deferred (some [])) := by rw [<- hWb]; exact (World.putObj_heap_other (by omega)).trans hDa
  have hk2 : Ag Obj.isWalk K n₀ Wa Wb := by rw [<- hWb]; exact Ag.putObj _ hla (by omega) hKl rfl
  have hta : Af C w.heap.size Wa Wb := by rw [<- hWb]; exact Af.putObj _ hla (by omega) rfl
  rw [hWb]
  refine wpIn_mono (hbd Wb hta ⟨_, hl2⟩) ?_
  have fin : ∀ (jump : Option Code) (W3 : World), Ag Av K n₀ Wb W3 →
    (Instr.endRound (w.heap.size + 1) jump).run P W3 = .ok (.bool jump.isNone) (W3.putObj (w.heap.size + 1) (.loop (rec (if jump.isNone then .ready else .done) jump))) ∧
    (W3.putObj (w.heap.size + 1) (.loop (rec (if jump.isNone then .ready else .done) jump))).heap[w.heap.size + 1]? = some (.loop (rec (if jump.isNone then .ready else .done) jump)) ∧
    (W3.putObj (w.heap.size + 1) (.loop (rec (if jump.isNone then .ready else .done) jump))).heap[w.heap.size]? = some (.deferred (some [])) ∧
    Af C w.heap.size W3 (W3.putObj (w.heap.size + 1) (.loop (rec (if jump.isNone then .ready else .done) jump))) ∧
    Ag Obj.isWalk K n₀ W3 (W3.putObj (w.heap.size + 1) (.loop (rec (if jump.isNone then .ready else .done) jump))) := fun jump W3 hk3 => by
   have hl3 : W3.heap[w.heap.size + 1]? = some (.loop { rec .ready none with state := .busy }) := hk3.heap hl2 (.inr (.inr rfl))
   have hD3 : W3.heap[w.heap.size]? = some (.deferred (some [])) := hk3.heap hD2 (.inr (.inr rfl))
   have hr := run_endRound (P := P) jump hl3
   rw [hrec] at hr |-
   exact ⟨hr, World.putObj_heap_same (Gl hl3), (World.putObj_heap_other (by omega)).trans hD3, Af.putObj _ hl3 (by omega) rfl, Ag.putObj _ hl3 (by omega) hKl rfl⟩
  rintro e a3 W3 hp
  cases e with
  | normal =>
   obtain ⟨hr, hl4, hD4, ht4, hk4⟩ := fin none W3 hp.1
   exact ⟨_, _, hr, .inl ⟨rfl, ⟨hI _ _ _ hp.2 ht4, hl4, hD4⟩, ((hka.walks.trans hk2).trans hp.1.walks).trans hk4⟩⟩
  | ret =>
   obtain ⟨hr, hl4, hD4, ht4, hk4⟩ := fin (some .ret) W3 hp.1
   exact ⟨_, _, hr, .inr ⟨rfl, ⟨.ret, hIx _ _ _ _ hp.2 ht4, hl4, hD4⟩, ((hka.walks.trans hk2).trans hp.1.walks).trans hk4⟩⟩
  | exit id =>
   obtain ⟨hr, hl4, hD4, ht4, hk4⟩ := fin (some (.exit id)) W3 hp.1
   exact ⟨_, _, hr, .inr ⟨rfl, ⟨.exit id, hIx _ _ _ _ hp.2 ht4, hl4, hD4⟩, ((hka.walks.trans hk2).trans hp.1.walks).trans hk4⟩⟩
  | goto t =>
   obtain ⟨hr, hl4, hD4, ht4, hk4⟩ := fin (some (.goto t)) W3 hp.1
   exact ⟨_, _, hr, .inr ⟨rfl, ⟨.goto t, hIx _ _ _ _ hp.2 ht4, hl4, hD4⟩, ((hka.walks.trans hk2).trans hp.1.walks).trans hk4⟩⟩
  | panic ch => exact hp.elim
  | outgrown => exact hp.elim
 ·rintro e W2 ⟨⟨v, rfl⟩, (⟨xs, ⟨hi, hl, hk⟩, hfin⟩ | ⟨pre, c, hi, hl, hk⟩)⟩
  ·refine ⟨none, _, by have := run_endLoop (P := P) hl (by rw [hrec]; simp); rw [hrec] at this; exact this, hdone _ xs _ Nr (hI _ _ _ hi (Af.putObj _ hl (by omega) rfl)) (hF _ _ _ hfin (Af.putObj _ hl (by omega) rfl)) ((World.putObj_heap_other (by omega)).trans hk)⟩
  ·refine ⟨some c, _, by have := run_endLoop (P := P) hl (by rw [hrec]; simp); rw [hrec] at this; exact this, hstop _ c pre _ Nr (hIx _ _ _ _ hi (Af.putObj _ hl (by omega) rfl)) ((World.putObj_heap_other (by omega)).trans hk)⟩
section
variable {P : Program} {ops : Array Oper} {Q : Exit -> Act -> World -> Prop} {md : Region.Mode} {S : Array Bool -> World -> Prop}
def C1 (P : Program) (md : Region.Mode) (ops : Array Oper) (Q : Exit -> Act -> World -> Prop) (S : Array Bool -> World -> Prop) : Nat -> Array Bool -> Act -> World -> Prop
 | 0, listed, a, w => Region.ready md ops listed = [] /\ Q .normal a w
 | fuel + 1, listed, a, w =>
  (Region.ready md ops listed = [] -> Q .normal a w) ∧
  ∀ i ∈ Region.ready md ops listed, wpOp P ops Q i (fun a' w' => S (listed.setIfInBounds i true) w' /\ C1 P md ops Q S fuel (listed.setIfInBounds i true) a' w') a w
theorem FZ : ∀ (fuel : Nat) (listed : Array Bool) (a : Act) (w : World), C1 P md ops Q S fuel listed a w -> wpAny P md ops Q fuel listed a w
 | 0, _, _, _, h => h
 | fuel + 1, _, _, _, h => ⟨h.1, fun i hi => wpOp_mono (fun a' w' h' => FZ fuel _ a' w' h'.2) (h.2 i hi)⟩
theorem LQ {i m : Nat} {oi om : Oper} {v : Value} (hi : ops[i]? = some oi) (hom : ops[m]? = some om) (hwm : ∃ e ∈ om.after, Region.binds md e = true /\ e.on = i)
  (hsame : ∀ L w, S (L.setIfInBounds i true) w ↔ S L w) (hsel : ∀ (j : Nat) (o : Oper) cs b, ops[j]? = some o -> o.op ≠ .select cs b)
  (hQ : ∀ c a w, Q (.panic c) (a.put oi.dst v) w -> Q (.panic c) a w) :
  ∀ (fuel : Nat) (listed : Array Bool) (a : Act) (w : World),
   (∀ j oj, ops[j]? = some oj -> j ≠ i -> listed.getD j true = false -> (∀ e ∈ oj.after, Region.binds md e = true -> e.on ≠ i) -> oi.apart ops oj = true) →
   i ∈ Region.ready md ops listed -> listed.getD m true = false -> YieldsIf P ops (fun w => ∃ L, S L w /\ L.getD m true = false) oi v a -> S listed w →
   C1 P md ops Q S fuel (listed.setIfInBounds i true) (a.put oi.dst v) w -> C1 P md ops Q S (fuel + 1) listed a w := by
 intro fuel
 induction fuel with
 | zero =>
  intro listed a w _ hr hm hy hS H
  refine ⟨fun h => (by rw [h] at hr; cases hr), fun j hj => ?_⟩
  by_cases hji : j = i
  ·subst hji; exact hy.wpOp hi ⟨listed, hS, hm⟩ ⟨(hsame _ _).2 hS, H⟩
  ·have := ready_mono hj hji
   rw [H.1] at this
   cases this
 | succ fuel ih =>
  intro listed a w hfree hr hm hy hS H
  refine ⟨fun h => (by rw [h] at hr; cases hr), fun j hj => ?_⟩
  by_cases hji : j = i
  ·subst hji; exact hy.wpOp hi ⟨listed, hS, hm⟩ ⟨(hsame _ _).2 hS, H⟩
  ·have h1 := H.2 j (ready_mono hj hji)
   obtain ⟨hjun, oj, hoj, hall⟩ := mem_ready.1 hj
   have hnot : ∀ e ∈ oj.after, Region.binds md e = true -> e.on ≠ i := fun e he hb heq => by
    have h1 := hall e he hb
    have h0 := (mem_ready.1 hr).1
    rw [heq] at h1
    rcases Nat.lt_or_ge i listed.size with h' | h'
    ·simp [h'] at h0 h1; rw [h0] at h1; cases h1
    ·simp [Array.getElem?_eq_none h'] at h1
   have hjm : j ≠ m := by
    rintro rfl
    rw [hom] at hoj
    injection hoj with hoj
    subst hoj
    obtain ⟨e, he, hb, heq⟩ := hwm
    exact hnot e he hb heq
   have h2 := wpOp_putIf hoj (hfree j oj hoj hji hjun hnot) (fun cs b => hsel i oi cs b hi) (fun cs b => hsel j oj cs b hoj) hQ hy h1
   have hfree' : ∀ k ok, ops[k]? = some ok -> k ≠ i -> (listed.setIfInBounds j true).getD k true = false →
     (∀ e ∈ ok.after, Region.binds md e = true -> e.on ≠ i) -> oi.apart ops ok = true := fun k ok hk hki hun hno => by
    refine hfree k ok hk hki ?_ hno
    by_cases hjk : j = k
    ·subst hjk; exact hjun
    ·rw [getD_set_ne true hjk] at hun; exact hun
   refine wpOp_mono (fun a' w' h3 => ?_) h2
   have hS' : S (listed.setIfInBounds j true) w' := by
    have := h3.2.1
    rw [Array.setIfInBounds_comm _ _ (Ne.symm hji)] at this
    exact (hsame _ _).1 this
   refine ⟨hS', ih (listed.setIfInBounds j true) a' w' hfree' (ready_mono hr (Ne.symm hji)) (by rw [getD_set_ne true hjm]; exact hm) h3.1 hS' ?_⟩
   rw [Array.setIfInBounds_comm _ _ hji]
   exact h3.2.2
def GG (md : Region.Mode) (ops : Array Oper) (m i : Nat) : Bool := match ops[m]? with
 | some o => o.after.any fun e => Region.binds md e && e.on == i
 | none => false
theorem Du {i : Nat} (m : Nat) {oi : Oper} {v : Value} {fuel : Nat} {listed : Array Bool} {a : Act} {w : World} (hi : ops[i]? = some oi) (hwm : GG md ops m i = true) (hml : listed.getD m true = false)
  (hsame : ∀ L w, S (L.setIfInBounds i true) w ↔ S L w)
  (hs : Region.noSelect ops = true) (hf : Region.free md ops listed i = true) (hr : (Region.ready md ops listed).contains i = true)
  (hQ : ∀ c a w, Q (.panic c) (a.put oi.dst v) w -> Q (.panic c) a w) (hw : Region.wanted oi (yielded ops a.tmps) = true) (hy : ∀ L w, S L w -> L.getD m true = false -> (execOp a.eval oi).run P w = .ok (.value v) w) (hS : S listed w)
  (h : S (listed.setIfInBounds i true) w -> C1 P md ops Q S fuel (listed.setIfInBounds i true) (a.put oi.dst v) w) : C1 P md ops Q S (fuel + 1) listed a w := by
 obtain ⟨om, hom, hwm'⟩ : ∃ om, ops[m]? = some om /\ ∃ e ∈ om.after, Region.binds md e = true /\ e.on = i := by
  unfold GG at hwm
  cases ho : ops[m]? with
  | none => rw [ho] at hwm; cases hwm
  | some om =>
   rw [ho] at hwm
   obtain ⟨k, hk, he⟩ := Array.any_eq_true.1 hwm
   rw [Bool.and_eq_true, beq_iff_eq] at he
   exact ⟨om, rfl, om.after[k], Array.getElem_mem hk, he.1, he.2⟩
 exact LQ hi hom hwm' hsame (Region.noSelect_spec hs) hQ fuel listed a w (Region.free_spec hi hf) (by simpa using hr) hml (.inl ⟨hw, fun w ⟨L, h1, h2⟩ => hy L w h1 h2⟩) hS (h ((hsame _ _).2 hS))
theorem gN {L : Array Bool} {i k : Nat} (h : i ≠ k) : (L.setIfInBounds i true).getD k true = L.getD k true := getD_set_ne true h
theorem wL (i m : Nat) {oi : Oper} {v : Value} {fuel : Nat} {listed : Array Bool} {a : Act} {w : World} (hS : S listed w)
  (h : S (listed.setIfInBounds i true) w -> C1 P md ops Q S fuel (listed.setIfInBounds i true) (a.put oi.dst v) w)
  (hi : J4 ops.toList i = some oi := by exact rfl) (hw : Region.wanted oi (yielded ops a.tmps) = true := by rfl) (hy : ∀ L w, S L w -> L.getD m true = false -> (execOp a.eval oi).run P w = .ok (.value v) w := by intro L w' hL hm; (try dsimp only at hL); go_simp; (try with_reducible rfl))
  (hsame : ∀ L w, S (L.setIfInBounds i true) w ↔ S L w := by intro L w; simp (decide := true) only [gN]) (hwm : GG md ops m i = true := by kernel_rfl) (hml : listed.getD m true = false := by kernel_rfl)
  (hs : Region.noSelect ops = true := by kernel_rfl) (hf : Region.free md ops listed i = true := by kernel_rfl) (hr : (Region.ready md ops listed).contains i = true := by kernel_rfl)
  (hQ : ∀ c a w, Q (.panic c) (a.put oi.dst v) w -> Q (.panic c) a w := by exact fun _ _ _ h => h) : C1 P md ops Q S (fuel + 1) listed a w :=
 Du m (NF hi) hwm hml hsame hs hf hr hQ hw hy hS h
theorem wM (i m : Nat) {oi : Oper} (v : Value) {fuel : Nat} {listed : Array Bool} {a : Act} {w : World} (hy : ∀ L w, S L w -> L.getD m true = false -> (execOp a.eval oi).run P w = .ok (.value v) w) (hS : S listed w)
  (h : S (listed.setIfInBounds i true) w -> C1 P md ops Q S fuel (listed.setIfInBounds i true) (a.put oi.dst v) w)
  (hi : J4 ops.toList i = some oi := by exact rfl) (hw : Region.wanted oi (yielded ops a.tmps) = true := by rfl)
  (hsame : ∀ L w, S (L.setIfInBounds i true) w ↔ S L w := by intro L w; simp (decide := true) only [gN]) (hwm : GG md ops m i = true := by kernel_rfl) (hml : listed.getD m true = false := by kernel_rfl)
  (hs : Region.noSelect ops = true := by kernel_rfl) (hf : Region.free md ops listed i = true := by kernel_rfl) (hr : (Region.ready md ops listed).contains i = true := by kernel_rfl)
  (hQ : ∀ c a w, Q (.panic c) (a.put oi.dst v) w -> Q (.panic c) a w := by exact fun _ _ _ h => h) : C1 P md ops Q S (fuel + 1) listed a w :=
 Du m (NF hi) hwm hml hsame hs hf hr hQ hw hy hS h
def Ad (P : Program) (md : Region.Mode) (ops : Array Oper) (Q : Exit -> Act -> World -> Prop) (S : Array Bool -> World -> Prop) (fuel : Nat) (listed : Array Bool) (a : Act) (w : World) (rs : List Nat) : Prop :=
 ∀ i ∈ rs, wpOp P ops Q i (fun a' w' => S (listed.setIfInBounds i true) w' /\ C1 P md ops Q S fuel (listed.setIfInBounds i true) a' w') a w
theorem Aj {rs : List Nat} {fuel : Nat} {listed : Array Bool} {a : Act} {w : World} (hr : Region.ready md ops listed = rs) (hne : rs ≠ [])
  (h : Ad P md ops Q S fuel listed a w rs) : C1 P md ops Q S (fuel + 1) listed a w :=
 ⟨fun h0 => absurd (hr ▸ h0) hne, hr ▸ h⟩
theorem AU {listed : Array Bool} {a : Act} {w : World} (hr : Region.ready md ops listed = []) (h : Q .normal a w) : ∀ fuel, C1 P md ops Q S fuel listed a w
 | 0 => ⟨hr, h⟩
 | _ + 1 => ⟨fun _ => h, by rw [hr]; simp⟩
theorem Ad.nil {fuel : Nat} {listed : Array Bool} {a : Act} {w : World} : Ad P md ops Q S fuel listed a w [] := fun _ h => by cases h
theorem Ad.cons {i : Nat} {o : Oper} {fuel : Nat} {listed : Array Bool} {a : Act} {w : World} {rs : List Nat} (ho : ops[i]? = some o) (hw : Region.wanted o (yielded ops a.tmps) = true)
  (h : ∀ K' : Act -> World -> Prop, Shut (∀ a w, S (listed.setIfInBounds i true) w -> (S (listed.setIfInBounds i true) w -> C1 P md ops Q S fuel (listed.setIfInBounds i true) a w) -> K' a w) -> Oper.wp P o a w K' Q)
  (hs : Ad P md ops Q S fuel listed a w rs) : Ad P md ops Q S fuel listed a w (i :: rs) := fun j hj => by
 rcases List.mem_cons.1 hj with rfl | hj
 ·refine wpOp_step ho (fun K' hK => ?_)
  rw [if_pos hw]
  exact h K' (fun a w hS hW => hK a w ⟨hS, hW hS⟩)
 ·exact hs j hj
theorem Nw {F : Fence} {n : Nat} {row : String} {args : Array Value} {w : World} {R : Value -> World -> Prop} (hF : ∀ m m', Steps P m m' -> StepsIn (Machine.fenced P F) P m m') (h : Rows P row args w R) : RowsIn F n P row args w R :=
 fun c cs _ => let ⟨v, w', r, s⟩ := h c cs; ⟨v, w', r, hF _ _ s⟩
theorem RK {l n : Nat} {o : Oper} {a : Act} {w : World} {K : Act -> World -> Prop} (hd : ∀ c, o.op ≠ .defer c) (h : o.wp P a w K Q) : o.wpIn (Fence.wide.inRound l) n P a w K Q := by
 unfold Oper.wp at h
 unfold Oper.wpIn
 refine ⟨fun _ _ => trivial, ?_⟩
 rw [Oper.semAt_eq _ _ _ hd]
 generalize (execOp a.eval o).run P w = r at *
 cases r with
 | ok x w' =>
  cases x <;> simp only [Oper.upon, Oper.uponIn] at h |-
  case value v => exact h
  case skip => exact h
  case defer d => exact h
  case enter f args =>
   refine ⟨fun hh => by simp [Fence.wide] at hh, CallsIn.inRound l ((callsIn_wide (n := n - 1)).2 h)⟩
  case row row args => exact ⟨fun hh => by simp [Fence.wide] at hh, Nw (fun m m' hs => stepsIn_wide.2 hs) h⟩
 | halt x w' => cases x <;> simp only [Oper.upon, Oper.uponIn] at h |- <;> exact h
theorem Dh {l n : Nat} (hd : ∀ (i : Nat) (o : Oper) (c : Call), ops[i]? = some o -> o.op ≠ .defer c) (hQ : ¬ LetsOut Q) : ∀ (fuel : Nat) (listed : Array Bool) (a : Act) (w : World),
  wpAny P md ops Q fuel listed a w -> wpAnyIn (Fence.wide.inRound l) n P md ops Q fuel listed a w
 | 0, _, _, _, h => h
 | fuel + 1, listed, a, w, h => ⟨h.1, fun i hi => by
  have h2 := h.2 i hi
  unfold wpOp at h2
  unfold wpOpIn
  cases ho : ops[i]? with
  | none => rw [ho] at h2; exact Dh hd hQ fuel _ _ _ h2
  | some o =>
   rw [ho] at h2
   simp only at h2 |-
   split
   ·rename_i hw
    rw [if_pos hw] at h2
    rcases h2 with h2 | ⟨_, h2⟩
    ·exact RK (hd i o · ho) (Oper.wp_mono (fun a w h => Dh hd hQ fuel _ a w h) h2)
    ·exact absurd h2 hQ
   ·rename_i hw
    rw [if_neg hw] at h2
    exact ⟨fun _ _ => trivial, Dh hd hQ fuel _ _ _ h2⟩⟩
def Pf (ops : Array Oper) : Bool := ops.all fun o => match o.op with | .defer _ => false | _ => true
theorem LA (h : Pf ops = true) (i : Nat) (o : Oper) (c : Call) (ho : ops[i]? = some o) : o.op ≠ .defer c := by
 intro e
 obtain ⟨hlt, hg⟩ := Array.getElem?_eq_some_iff.1 ho
 have := Array.all_eq_true.1 h i hlt
 rw [hg, e] at this
 cases this
theorem M3 {id : Nat} {a : Act} {w : World} (hm : P.follows .mixedOrders = true) (hS : S (Array.replicate ops.size false) w.drew)
  (h : S (Array.replicate ops.size false) w.drew -> C1 P .any ops (NoPanic Q) S ops.size (Array.replicate ops.size false) a w.drew) : (Code.region id ops true).wp P Q a w :=
 wp_region_noPanic (wp_region_any hm (FZ _ _ _ _ (h hS)))
theorem Dl {l n id : Nat} {a : Act} {w : World} (hm : P.follows .mixedOrders = true) (hd : Pf ops = true) (hQ : ¬ LetsOut Q) (hS : S (Array.replicate ops.size false) w.drew)
  (h : S (Array.replicate ops.size false) w.drew -> C1 P .any ops Q S ops.size (Array.replicate ops.size false) a w.drew) : (Code.region id ops true).wpIn (Fence.wide.inRound l) n P Q a w :=
 wpIn_region_any hm (Dh (fun i o c => LA hd i o c) hQ _ _ _ _ (FZ _ _ _ _ (h hS)))
end
attribute [local go_sem] Oper.semAt_some CA B0
inductive It where
 | val (tv : Value) (t : Tr)
 | par (pv : Value) (x : Sc) (t : Tr)
 | bad (e : Int)
def It.isBad : It -> Bool
 | .bad _ => true
 | _ => false
def LO : It -> Value
 | .val tv _ => .iface 308 tv
 | .par pv _ _ => .iface 317 pv
 | .bad e => CZ e
def Mt (x : It) : Array Value := #[LO x]
def MW (s : List It) : Prop := ∃ x ∈ s, x.isBad = true
def Gg (w : World) (S : Nat -> Prop) (x : Sc) (t : Tr) (pv : Value) : Prop :=
 ∃ (k : Int) (nm : ByteArray) (y : Sc) (kv cv : Value), pv = .agg #[.int .i64 x.kind, .int .i64 x.num, .string x.str, .int .i64 k, .string nm, .int .i64 y.kind, .int .i64 y.num, .string y.str, kv, cv] ∧
  Ao w S t (.agg #[.int .i64 k, .string nm, .int .i64 y.kind, .int .i64 y.num, .string y.str, kv, cv])
def Nu (w : World) (S : Nat -> Prop) : It -> Prop
 | .val tv t => Ao w S t tv
 | .par pv x t => Gg w S x t pv
 | .bad _ => True
theorem Nu.below {w w' : World} {S : Nat -> Prop} {x : It} (h : Nu w S x) (hb : Below w.heap.size w w') : Nu w' S x := by
 cases x with
 | val tv t => exact Ao.below h hb
 | par pv x t => obtain ⟨k, nm, y, kv, cv, e, h⟩ := h; exact ⟨k, nm, y, kv, cv, e, Ao.below h hb⟩
 | bad e => trivial
theorem Nu.less {w : World} {S S' : Nat -> Prop} {x : It} (hss : ∀ b, b < w.heap.size -> S b -> S' b) (h : Nu w S x) : Nu w S' x := by
 cases x with
 | val tv t => exact Au hss t tv h
 | par pv x t => obtain ⟨k, nm, y, kv, cv, e, h⟩ := h; exact ⟨k, nm, y, kv, cv, e, Au hss _ _ h⟩
 | bad e => trivial
theorem KE (R : Nat) (endk : Int) (onef : FuncId) (caps : Array Value) (w : World) :
  Calls Tryz.prog 201 #[.pointer (some ⟨R, 0, none⟩), .int .i64 endk, .func (.func onef) #[] caps] w fun e w' =>
   e = .returned (.func (.func 215) #[] #[.pointer (some ⟨w.heap.size, 0, none⟩), .pointer (some ⟨w.heap.size + 1, 0, none⟩), .pointer (some ⟨w.heap.size + 1 + 1, 0, none⟩)]) ∧
   w' = ((w.alloc (.cells #[.pointer (some ⟨R, 0, none⟩)] 259)).alloc (.cells #[.int .i64 endk] 3)).alloc (.cells #[.func (.func onef) #[] caps] 311) := by
 go_enter Tryz.func201, Tryz.ntmps201
 go_wp2
 go_ret
 exact ⟨by simp, rfl⟩
def RV (w : World) (R : Nat) : Nat := match w.cell? ⟨R, 1, none⟩ with | some (.int _ n) => n.toNat | _ => 0
theorem L1 {w : World} {R : Nat} {v : Value} {p : Nat} (h : RF w R v p) : RV w R = p := by
 unfold RV; rw [h.cells.2.1]; simp
def SE (R : Nat) (v : Value) (T : It -> Nat -> Prop) (B : It -> Prop) (w : World) (e : Ending) (w' : World) : Prop :=
 ∃ x, e = .returned (LO x) /\ Nu w' (fun b => w.heap.size <= b) x /\ Ax R w w' /\ ((x.isBad = false /\ ∃ q', T x q' /\ RF w' R v q') \/ (x.isBad = true /\ B x))
def Tz (T : List It -> It -> Nat -> Prop) (B : It -> Prop) (pre : List It) (x : It) (W0 W : World) : Prop :=
 Nu W (fun b => W0.heap.size <= b) x /\ ((x.isBad = false /\ ∃ q', T pre x q') \/ (x.isBad = true /\ B x))
def Wm (R : Nat) (v : Value) (F : List It -> Nat -> Prop) (pre : List It) (W : World) : Prop := ∃ q, F pre q /\ RF W R v q
theorem Ax.keeps {R : Nat} {p : Obj -> Bool} {K : Nat -> Prop} {w X Y : World} (h : Ax R w X) (hk : Ag p K w.heap.size X Y) : Ax R w Y :=
 ⟨hk.os.trans h.os, hk.tape.trans h.tape, hk.output.trans h.output, Nat.le_trans h.size hk.size, fun k o hko hc ho => by
  have hlt := (Gl hko)
  exact hk.heap (h.block k o hko hc ho) (.inl hlt), fun k c e fz hko => by
  have hlt := (Gl hko)
  obtain ⟨c', fz', h'⟩ := h.kinds k c e fz hko
  exact ⟨c', fz', hk.heap h' (.inl hlt)⟩⟩
structure RI (w0 : World) (R : Nat) (v : Value) (Br Be Bo : Nat) (endk : Int) (fv : Value) (Bx : World -> Prop) (q : Nat) (W : World) : Prop where
 md : Ax R w0 W
 rf : RF W R v q
 br : Boxed W Br 259 (.pointer (some ⟨R, 0, none⟩))
 be : Boxed W Be 3 (.int .i64 endk)
 bo : Boxed W Bo 311 fv
 bx : Bx W
theorem RI.mod {w0 : World} {R : Nat} {v : Value} {Br Be Bo : Nat} {endk : Int} {fv : Value} {Bx : World -> Prop} {q q' : Nat} {X Y : World} (hBm : ∀ X Y, Bx X -> Ax R X Y -> Bx Y) (h1 : Br ≠ R) (h2 : Be ≠ R) (h3 : Bo ≠ R)
  (h : RI w0 R v Br Be Bo endk fv Bx q X) (hm : Ax R X Y) (hr : RF Y R v q') : RI w0 R v Br Be Bo endk fv Bx q' Y :=
 ⟨h.md.trans hm, hr, Ah h.br hm (fun e => h1 e), Ah h.be hm (fun e => h2 e), Ah h.bo hm (fun e => h3 e), hBm _ _ h.bx hm⟩
theorem RI.keeps {w0 : World} {R : Nat} {v : Value} {Br Be Bo : Nat} {endk : Int} {fv : Value} {Bx : World -> Prop} {q : Nat} {X Y : World} {K : Nat -> Prop} (hBk : ∀ X Y, Bx X -> Ag Obj.isWalk K w0.heap.size X Y -> Bx Y) (hR : R < w0.heap.size) (h1 : K Br) (h2 : K Be) (h3 : K Bo)
  (h : RI w0 R v Br Be Bo endk fv Bx q X) (hk : Ag Obj.isWalk K w0.heap.size X Y) : RI w0 R v Br Be Bo endk fv Bx q Y :=
 ⟨h.md.keeps hk, hk.heap h.rf (.inl hR), Am h.br hk (.inr h1), Am h.be hk (.inr h2), Am h.bo hk (.inr h3), hBk _ _ h.bx hk⟩
theorem Iz (R : Nat) (v : Value) (ts : List AV) (Br Be Bo : Nat) (K : Nat -> Prop) (w0 : World) (p0 : Nat) (endk : Int) (hend0 : endk ≠ 0) (onef : FuncId) (caps : Array Value) (heg : ∀ (args : Array Value) (w : World), (callFunc onef args).run Tryz.prog w = .ok (.enter onef args) w) (hx : Fx ts) (h0 : Rd w0 R v ts p0)
  (Bx : World -> Prop) (hBm : ∀ X Y, Bx X -> Ax R X Y -> Bx Y) (hBk : ∀ X Y, Bx X -> Ag Obj.isWalk K w0.heap.size X Y -> Bx Y) (h1 : Br ≠ R) (h2 : Be ≠ R) (h3 : Bo ≠ R) (k1 : K Br) (k2 : K Be) (k3 : K Bo)
  (S : List It -> Nat -> Prop) (T : List It -> It -> Nat -> Prop) (F : List It -> Nat -> Prop) (B : It -> Prop) (p1 : Nat) (hS0 : S [] p1)
  (hqS : ∀ pre q, S pre q -> q <= ts.length) (hEnd : ∀ pre q, S pre q -> DT ts q [endk] = true -> F pre q)
  (hone : ∀ pre q W, S pre q -> DT ts q [endk] = false -> Rd W R v ts q -> Bx W -> Calls Tryz.prog onef caps W (SE R v (fun x q' => q < q' /\ q' <= ts.length /\ T pre x q') B W))
  (hT1 : ∀ pre x q, T pre x q -> DT ts q [7] = true -> S (pre ++ [x]) (q + 1)) (hT0 : ∀ pre x q, T pre x q -> DT ts q [7] = false -> F (pre ++ [x]) q) :
  Uk MW Tryz.prog 215 #[.pointer (some ⟨Br, 0, none⟩), .pointer (some ⟨Be, 0, none⟩), .pointer (some ⟨Bo, 0, none⟩)] Mt (fun k => k = R) K w0.heap.size (Tz T B) (Wm R v F)
   (fun W => RI w0 R v Br Be Bo endk (.func (.func onef) #[] caps) Bx p1 W) := by
 intro l J Jx W hr hJ hJx hJb hY hJ0
 refine callsIn_of_wp Tryz.func215 rfl trivial ?_ rfl
 simp only [Tryz.ntmps215, List.size_toArray, List.length_cons, List.length_nil, Nat.reduceAdd, Nat.reduceSub, Array.replicate_succ, Array.replicate_zero, List.push_toArray, List.append_toArray, List.nil_append, List.cons_append]
 gi_wp2
 refine De ?_
 gi_wp2
 refine Db ?_
 gi_wp2
 gi_loopw [5, 6, 7] (fun _ _ _ wr => ∃ (q : Nat) (pre : List It), RI w0 R v Br Be Bo endk (.func (.func onef) #[] caps) Bx q wr /\ W.heap.size <= wr.heap.size /\ J pre wr /\ q <= ts.length /\ Hid (S pre q)) (fun _ _ _ wr => ts.length + 1 - RV wr R)
 case atStart => exact ⟨p1, [], hr, Nat.le_refl _, hJ0, hqS _ _ hS0, hid hS0⟩
 case round =>
  obtain ⟨q, pre, hr1, hz1, hJ1, hq1, HS⟩ := hrel
  clear hr hJ0 hS0
  have HM := hid (L1 hr1.rf)
  have hrd := h0.mod hr1.rf hr1.md
  obtain ⟨r0, r1, f0, f1⟩ := hr1.rf.cells
  have b1 := hr1.br.cell
  have b2 := hr1.be.cell
  have b3 := hr1.bo.cell
  have hd : Below wr.heap.size wr wr.drew := (Bq _ wr).drew
  have hI : ∀ (cap : Nat) (fz : Nat × Nat), Calls Tryz.prog 199 #[.pointer (some ⟨R, 0, none⟩), .slice (some ⟨wr.heap.size, 0, none⟩) 1 cap] ((wr.alloc (.cells #[.int .i64 endk] 3 fz)).drew) fun e w' => e = .returned (.bool (DT ts q [endk])) /\ Below wr.heap.size wr w' := fun cap fz =>
   (DV wr.heap.size R v ts q [endk] 1 cap fz wr.drew rfl rfl (hrd.tk.below hd) hx.len (by have := hx.len; omega) (by omega) (hrd.rf.below hd)).mono (fun e w' h => ⟨h.1, hd.trans h.2⟩)
  cases hbb : DT ts q [endk] with
  | true =>
   rw [hbb] at hI
   have HF := hid (hEnd pre q HS.out hbb)
   clear hone hT1 hT0 hY hJb
   gi_wp2
   refine wpIn_wide.2 ?_
   go_region_held3 (fun w' => w'.cell? ⟨Br, 0, none⟩ = some (.pointer (some ⟨R, 0, none⟩)) /\ w'.cell? ⟨Be, 0, none⟩ = some (.int .i64 endk)) (first | exact ⟨b1, b2⟩ | exact ⟨Ab b1 (((Bq _ wr).alloc Nr _).drew), Ab b2 (((Bq _ wr).alloc Nr _).drew)⟩ | (constructor <;> assumption)) (first | (go_at_call 199; refine (hI _ _).mono ?_; rintro e w2 ⟨rfl, hb2⟩; have t1 := Ab b1 hb2; have t2 := Ab b2 hb2) | fail)
   have hb3 : Below wr.heap.size wr w2 := hb2
   have HJ := hid (hJ _ _ _ hJ1 (Af.of_below hb3))
   have HR := hid (hr1.rf.below hb3)
   clear hI hr1 hJ1 hrd
   gi_wp2
   try simp only [Exit.noGoto_normal]
   go_end0
   exact ⟨⟨_, rfl⟩, .inl ⟨pre, HJ.out, q, HF.out, HR.out⟩⟩
  | false =>
   rw [hbb] at hI
   have hO := fun W h1 h2 => hone pre q W HS.out hbb h1 h2
   gi_wp2
   refine wpIn_wide.2 ?_
   go_region_held3 (fun w' => w'.cell? ⟨Br, 0, none⟩ = some (.pointer (some ⟨R, 0, none⟩)) /\ w'.cell? ⟨Be, 0, none⟩ = some (.int .i64 endk)) (first | exact ⟨b1, b2⟩ | exact ⟨Ab b1 (((Bq _ wr).alloc Nr _).drew), Ab b2 (((Bq _ wr).alloc Nr _).drew)⟩ | (constructor <;> assumption)) (first | (go_at_call 199; refine (hI _ _).mono ?_; rintro e w2 ⟨rfl, hb2⟩; have t1 := Ab b1 hb2; have t2 := Ab b2 hb2) | fail)
   have hb3 : Below wr.heap.size wr w2 := hb2
   have hr2 := RI.mod hBm h1 h2 h3 hr1 (Ax.of_below hb3) (hr1.rf.below hb3)
   have hrd2 := h0.mod hr2.rf hr2.md
   have b3' := hr2.bo.cell
   have b1' := hr2.br.cell
   have hJ2 := hJ _ _ _ hJ1 (Af.of_below hb3)
   have hz2 := Nat.le_trans hz1 hb3.size
   have HJ1 := hid hJ1
   clear hI hr1 hJ1 hrd b1 b2 b3 r0 r1 f0 f1
   gi_wp2_with fail
   refine (callsIn_wide.2 (hO w2 hrd2 hr2.bx)).mono ?_
   rintro e w3 ⟨x, rfl, hit, hm3, hgood⟩
   clear hO
   have hsm1 := L3
   have hsm2 := La
   have hsm3 := OS
   have hJ3 := hJ _ _ _ hJ2 (Af.of_mod (C := fun k => k = R) hm3 rfl)
   cases x with
   | bad er =>
    have hB : B (.bad er) := by rcases hgood with ⟨h, _⟩ | ⟨_, h⟩; cases h; exact h
    have hbA : Below w3.heap.size w3 (w3.alloc (.cells #[.iface 281 (.agg #[.int .i64 er])] 268)) := (Bq _ w3).alloc Nr _
    have hturn : Af (fun k => k = R) W.heap.size wr (w3.alloc (.cells #[.iface 281 (.agg #[.int .i64 er])] 268)) := ((Af.of_below hb3).trans (Af.of_mod (C := fun k => k = R) hm3 rfl)).trans (Af.alloc _ _)
    have hadm : Tz T B pre (.bad er) wr (w3.alloc (.cells #[.iface 281 (.agg #[.int .i64 er])] 268)) := ⟨(hit.less (fun b _ hb => Nat.le_trans hb3.size hb)).below hbA, .inr ⟨rfl, hB⟩⟩
    obtain ⟨fn, tmps, assign, body, hy, hRr⟩ := hY pre (.bad er) wr _ HJ1.out hturn hadm
    dsimp only [Mt, LO] at hy |-
    unfold CZ at hy |-
    clear hgood hm3 hJ3 hJ2 hr2 hrd2 hturn hadm hbA b3' hb3 hit
    gi_wp2
    refine hRr.mono ?_
    rintro e W3 (⟨rfl, hJ6, hk6⟩ | ⟨rfl, hJ6, hk6⟩)
    ·exact absurd hJ6 (hJb _ _ ⟨_, List.mem_append_right _ (List.mem_singleton.2 rfl), rfl⟩)
    ·clear hy hk6 hRr b1'
     gi_wp2
     try simp only [Exit.noGoto_normal]
     go_end0
     exact ⟨⟨_, rfl⟩, .inr ⟨_, hJ6⟩⟩
   | val tv t =>
    obtain ⟨q', ⟨hqq, hql, hT⟩, hr4⟩ : ∃ q', (q < q' /\ q' <= ts.length /\ T pre (.val tv t) q') /\ RF w3 R v q' := by rcases hgood with ⟨_, h⟩ | ⟨h, _⟩; exact h; cases h
    have HT := hid hT
    have hr5 := RI.mod hBm h1 h2 h3 hr2 hm3 hr4
    have hbA : Below w3.heap.size w3 (w3.alloc (.cells #[.nilIface] 268)) := (Bq _ w3).alloc Nr _
    have hturn : Af (fun k => k = R) W.heap.size wr (w3.alloc (.cells #[.nilIface] 268)) := ((Af.of_below hb3).trans (Af.of_mod (C := fun k => k = R) hm3 rfl)).trans (Af.alloc _ _)
    have hadm : Tz T B pre (.val tv t) wr (w3.alloc (.cells #[.nilIface] 268)) := ⟨(hit.less (fun b _ hb => Nat.le_trans hb3.size hb)).below hbA, .inl ⟨rfl, q', hT⟩⟩
    obtain ⟨fn, tmps, assign, body, hy, hRr⟩ := hY pre (.val tv t) wr _ HJ1.out hturn hadm
    dsimp only [Mt, LO] at hy |-
    have hr6 := RI.mod hBm h1 h2 h3 hr5 (Ax.of_below hbA) (hr4.below hbA)
    have hz6 : W.heap.size <= (w3.alloc (.cells #[.nilIface] 268)).heap.size := Nat.le_trans hz2 (Nat.le_trans hm3.size hbA.size)
    have HIT := hid hit
    clear hgood hm3 hJ3 hJ2 hr5 hr2 hrd2 hturn hadm hbA hr4 b3' hb3 hT hit
    gi_wp2
    refine hRr.mono ?_
    rintro e W3 (⟨rfl, hJ6, hk6⟩ | ⟨rfl, hJ6, hk6⟩)
    ·have hr7 := RI.keeps hBk (h0.rf.lt) k1 k2 k3 hr6 hk6
     have hrd7 := h0.mod hr7.rf hr7.md
     have hT7 := EH R v ts q' 7 W3 hrd7.tk hx.len (by have := hx.len; omega) hrd7.rf
     have hz7 := Nat.le_trans hz6 hk6.size
     have b1'' := hr7.br.cell
     clear hy hr6 hk6 hrd7 hRr b1'
     cases hc : DT ts q' [7] with
     | true =>
      rw [hc] at hT7
      have HS' := hid (hT1 pre _ q' HT.out hc)
      have hqlt := Hc hc
      clear hT1 hT0 hc
      gi_wp2_with fail
      refine (callsIn_wide.2 hT7).mono ?_
      rintro e w8 ⟨rfl, hr8, hm8⟩
      have hr9 := RI.mod hBm h1 h2 h3 hr7 hm8 hr8
      have hJ8 := hJ _ _ _ hJ6 (Af.of_mod (C := fun k => k = R) hm8 rfl)
      have hz8 := Nat.le_trans hz7 hm8.size
      have HM2 := hid (L1 hr8)
      clear hT7 hm8 hr7 hJ6 b1''
      gi_wp2
      go_roundw
      case rel => exact ⟨q' + 1, pre ++ [.val tv t], hr9, hz8, hJ8, by omega, HS'⟩
      case measure => rw [HM.out]; show ts.length + 1 - RV w8 R < _; rw [HM2.out]; simp only [if_true]; omega
     | false =>
      rw [hc] at hT7
      have HF' := hid (hT0 pre _ q' HT.out hc)
      clear hT1 hT0 hc
      gi_wp2_with fail
      refine (callsIn_wide.2 hT7).mono ?_
      rintro e w8 ⟨rfl, hr8, hm8⟩
      have hJ8 := hJ _ _ _ hJ6 (Af.of_mod (C := fun k => k = R) hm8 rfl)
      clear hT7 hm8 hr7 hJ6 b1''
      gi_wp2
      try simp only [Exit.noGoto_normal]
      go_end0
      exact ⟨⟨_, rfl⟩, .inl ⟨pre ++ [.val tv t], hJ8, q', HF'.out, hr8⟩⟩
    ·clear hy hr6 hk6 hRr b1'
     gi_wp2
     try simp only [Exit.noGoto_normal]
     go_end0
     exact ⟨⟨_, rfl⟩, .inr ⟨_, hJ6⟩⟩
   | par pv xk t =>
    obtain ⟨q', ⟨hqq, hql, hT⟩, hr4⟩ : ∃ q', (q < q' /\ q' <= ts.length /\ T pre (.par pv xk t) q') /\ RF w3 R v q' := by rcases hgood with ⟨_, h⟩ | ⟨h, _⟩; exact h; cases h
    have HT := hid hT
    have hr5 := RI.mod hBm h1 h2 h3 hr2 hm3 hr4
    have hbA : Below w3.heap.size w3 (w3.alloc (.cells #[.nilIface] 268)) := (Bq _ w3).alloc Nr _
    have hturn : Af (fun k => k = R) W.heap.size wr (w3.alloc (.cells #[.nilIface] 268)) := ((Af.of_below hb3).trans (Af.of_mod (C := fun k => k = R) hm3 rfl)).trans (Af.alloc _ _)
    have hadm : Tz T B pre (.par pv xk t) wr (w3.alloc (.cells #[.nilIface] 268)) := ⟨(hit.less (fun b _ hb => Nat.le_trans hb3.size hb)).below hbA, .inl ⟨rfl, q', hT⟩⟩
    obtain ⟨fn, tmps, assign, body, hy, hRr⟩ := hY pre (.par pv xk t) wr _ HJ1.out hturn hadm
    dsimp only [Mt, LO] at hy |-
    have hr6 := RI.mod hBm h1 h2 h3 hr5 (Ax.of_below hbA) (hr4.below hbA)
    have hz6 : W.heap.size <= (w3.alloc (.cells #[.nilIface] 268)).heap.size := Nat.le_trans hz2 (Nat.le_trans hm3.size hbA.size)
    have HIT := hid hit
    clear hgood hm3 hJ3 hJ2 hr5 hr2 hrd2 hturn hadm hbA hr4 b3' hb3 hT hit
    gi_wp2
    refine hRr.mono ?_
    rintro e W3 (⟨rfl, hJ6, hk6⟩ | ⟨rfl, hJ6, hk6⟩)
    ·have hr7 := RI.keeps hBk (h0.rf.lt) k1 k2 k3 hr6 hk6
     have hrd7 := h0.mod hr7.rf hr7.md
     have hT7 := EH R v ts q' 7 W3 hrd7.tk hx.len (by have := hx.len; omega) hrd7.rf
     have hz7 := Nat.le_trans hz6 hk6.size
     have b1'' := hr7.br.cell
     clear hy hr6 hk6 hrd7 hRr b1'
     cases hc : DT ts q' [7] with
     | true =>
      rw [hc] at hT7
      have HS' := hid (hT1 pre _ q' HT.out hc)
      have hqlt := Hc hc
      clear hT1 hT0 hc
      gi_wp2_with fail
      refine (callsIn_wide.2 hT7).mono ?_
      rintro e w8 ⟨rfl, hr8, hm8⟩
      have hr9 := RI.mod hBm h1 h2 h3 hr7 hm8 hr8
      have hJ8 := hJ _ _ _ hJ6 (Af.of_mod (C := fun k => k = R) hm8 rfl)
      have hz8 := Nat.le_trans hz7 hm8.size
      have HM2 := hid (L1 hr8)
      clear hT7 hm8 hr7 hJ6 b1''
      gi_wp2
      go_roundw
      case rel => exact ⟨q' + 1, pre ++ [.par pv xk t], hr9, hz8, hJ8, by omega, HS'⟩
      case measure => rw [HM.out]; show ts.length + 1 - RV w8 R < _; rw [HM2.out]; simp only [if_true]; omega
     | false =>
      rw [hc] at hT7
      have HF' := hid (hT0 pre _ q' HT.out hc)
      clear hT1 hT0 hc
      gi_wp2_with fail
      refine (callsIn_wide.2 hT7).mono ?_
      rintro e w8 ⟨rfl, hr8, hm8⟩
      have hJ8 := hJ _ _ _ hJ6 (Af.of_mod (C := fun k => k = R) hm8 rfl)
      clear hT7 hm8 hr7 hJ6 b1''
      gi_wp2
      try simp only [Exit.noGoto_normal]
      go_end0
      exact ⟨⟨_, rfl⟩, .inl ⟨pre ++ [.par pv xk t], hJ8, q', HF'.out, hr8⟩⟩
    ·clear hy hr6 hk6 hRr b1'
     gi_wp2
     try simp only [Exit.noGoto_normal]
     go_end0
     exact ⟨⟨_, rfl⟩, .inr ⟨_, hJ6⟩⟩
theorem T1 : (Tryz.prog.info? 30).map (fun i => (i.zero, i.size, i.bytes)) = some (some (.agg #[.int .i64 0, .string ⟨#[]⟩, .int .i64 0, .int .i64 0, .string ⟨#[]⟩, .slice none 0 0, .slice none 0 0]), 7, 104) := by kernel_rfl
theorem Gt : ∃ i, Tryz.prog.info? 30 = some i /\ i.zero = some (.agg #[.int .i64 0, .string ⟨#[]⟩, .int .i64 0, .int .i64 0, .string ⟨#[]⟩, .slice none 0 0, .slice none 0 0]) /\ i.size = 7 /\ i.bytes = 104 := info_parts T1
def Bf : Value -> List Value
 | .agg a => a.toList
 | _ => []
def FJ : List Value := [.int .i64 0, .string ⟨#[]⟩, .int .i64 0, .int .i64 0, .string ⟨#[]⟩, .slice none 0 0, .slice none 0 0]
def Ef (W : World) (S : Nat -> Prop) : List Value -> List Tr -> Prop
 | [], [] => True
 | tv :: r, t :: ts => Ao W S t tv /\ Ef W S r ts
 | _, _ => False
theorem Ef.imp {W W' : World} {S S' : Nat -> Prop} (h : ∀ t tv, Ao W S t tv -> Ao W' S' t tv) : ∀ (tvs : List Value) (ts : List Tr), Ef W S tvs ts -> Ef W' S' tvs ts
 | [], [], _ => trivial
 | tv :: r, t :: ts, hh => ⟨h t tv hh.1, Ef.imp h r ts hh.2⟩
 | [], _ :: _, hh => hh.elim
 | _ :: _, [], hh => hh.elim
theorem Ef.snoc {W : World} {S : Nat -> Prop} {tv : Value} {t : Tr} (ht : Ao W S t tv) : ∀ (tvs : List Value) (ts : List Tr), Ef W S tvs ts -> Ef W S (tvs ++ [tv]) (ts ++ [t])
 | [], [], _ => ⟨ht, trivial⟩
 | _ :: r, _ :: ts, hh => ⟨hh.1, Ef.snoc ht r ts hh.2⟩
 | [], _ :: _, hh => hh.elim
 | _ :: _, [], hh => hh.elim
theorem Ef.len {W : World} {S : Nat -> Prop} : ∀ (tvs : List Value) (ts : List Tr), Ef W S tvs ts -> tvs.length = ts.length
 | [], [], _ => rfl
 | _ :: r, _ :: ts, hh => by rw [List.length_cons, List.length_cons, Ef.len r ts hh.2]
 | [], _ :: _, hh => hh.elim
 | _ :: _, [], hh => hh.elim
theorem Sg {W : World} {S : Nat -> Prop} {t : Tr} {tv : Value} (h : Ao W S t tv) : (Bf tv).length = 7 := by
 obtain ⟨k, nm, xk, xn, xs, KA, kl, kc, A, l, c, rfl⟩ := h.form
 rfl
theorem Ef.flat {W : World} {S : Nat -> Prop} : ∀ (tvs : List Value) (ts : List Tr), Ef W S tvs ts -> (tvs.flatMap Bf).length = tvs.length * 7
 | [], [], _ => rfl
 | tv :: r, t :: ts, hh => by rw [List.flatMap_cons, List.length_append, Sg hh.1, Ef.flat r ts hh.2, List.length_cons]; omega
 | [], _ :: _, hh => hh.elim
 | _ :: _, [], hh => hh.elim
def J6 (B : Nat) (v : Value) (b : Nat) : Prop := B <= b /\ v.ownBlock ≠ some b
structure KS (N T B : Nat) (K : Nat -> Prop) (c0 c1 c2 c3 c4 c5 : Value) (v : Value) (tvs : List Value) (trs : List Tr) (Wb W : World) : Prop where
 kp : Ag Av K N Wb W
 tb : W.heap[T]? = some (.cells #[c0, c1, c2, c3, c4, c5, v] 30)
 own : W.ownsRow B 30 7 v tvs.length (tvs.flatMap Bf)
 tr : Ef W (J6 B v) tvs trs
structure KZ (N T B : Nat) (K : Nat -> Prop) (c0 c1 c2 c3 c4 c5 : Value) (v v' : Value) (tvs : List Value) (trs : List Tr) (Wb W : World) : Prop where
 kp : Ag Av K N Wb W
 tb : W.heap[T]? = some (.cells #[c0, c1, c2, c3, c4, c5, v] 30)
 own : W.ownsRow B 30 7 v' (tvs.length + 1) (tvs.flatMap Bf ++ FJ)
 tr : Ef W (J6 B v') tvs trs
theorem I8 {X Y : World} {B n : Nat} {v : Value} {xs : List Value} (h : X.ownsRow B 30 7 v n xs) (hb : Below X.heap.size X Y) : Y.ownsRow B 30 7 v n xs := by
 refine ⟨h.1, ?_⟩
 rcases h.2 with h0 | ⟨g, cap, cur, hv, hb', hg, hr⟩
 ·exact .inl h0
 ·exact .inr ⟨g, cap, cur, hv, hb', Aa hg hb, hr⟩
theorem KS.below {N T B : Nat} {K : Nat -> Prop} {c0 c1 c2 c3 c4 c5 v : Value} {tvs : List Value} {trs : List Tr} {Wb X Y : World} (h : KS N T B K c0 c1 c2 c3 c4 c5 v tvs trs Wb X) (hb : Below X.heap.size X Y) : KS N T B K c0 c1 c2 c3 c4 c5 v tvs trs Wb Y :=
 ⟨h.kp.trans (Ag.of_below hb), Aa h.tb hb, I8 h.own hb, Ef.imp (fun t tv ht => ht.below hb) _ _ h.tr⟩
theorem KZ.below {N T B : Nat} {K : Nat -> Prop} {c0 c1 c2 c3 c4 c5 v v' : Value} {tvs : List Value} {trs : List Tr} {Wb X Y : World} (h : KZ N T B K c0 c1 c2 c3 c4 c5 v v' tvs trs Wb X) (hb : Below X.heap.size X Y) : KZ N T B K c0 c1 c2 c3 c4 c5 v v' tvs trs Wb Y :=
 ⟨h.kp.trans (Ag.of_below hb), Aa h.tb hb, I8 h.own hb, Ef.imp (fun t tv ht => ht.below hb) _ _ h.tr⟩
theorem Et {X : World} {B n : Nat} {v : Value} {xs : List Value} (h : X.ownsRow B 30 7 v n xs) : ∃ A cap, v = .slice A n cap /\ ∀ k, v.ownBlock = some k -> B <= k /\ k < X.heap.size /\ ∃ cur, X.heap[k]? = some (.cells cur 30 (0, 0)) := by
 rcases h.2 with ⟨rfl, rfl⟩ | ⟨g, cap, cur, rfl, hb, hg, hr⟩
 ·exact ⟨none, 0, rfl, fun k hk => by simp [Value.ownBlock] at hk⟩
 ·refine ⟨some ⟨g, 0, none⟩, cap, rfl, fun k hk => ?_⟩
  simp [Value.ownBlock] at hk
  subst hk
  exact ⟨hb, (Gl hg), cur, hg⟩
theorem KS.grow {N T B : Nat} {K : Nat -> Prop} {c0 c1 c2 c3 c4 c5 v : Value} {tvs : List Value} {trs : List Tr} {Wb X w1 : World} {g cap H : Nat} (h : KS N T B K c0 c1 c2 c3 c4 c5 v tvs trs Wb X) (hNB : N <= B) (hTB : T < B) (hK : ∀ k, K k -> k < B) (hBX : B <= X.heap.size) (hH : X.heap.size = H)
  (hown : w1.ownsRow B 30 7 (.slice (some ⟨g, 0, none⟩) (tvs.length + 1) cap) (tvs.length + 1) (tvs.flatMap Bf ++ FJ)) (hg : X.grownBy w1 v.ownBlock) (hat : v.ownBlock = some g \/ g = H) :
  KZ N T B K c0 c1 c2 c3 c4 c5 v (.slice (some ⟨g, 0, none⟩) (tvs.length + 1) cap) tvs trs Wb w1 := by
 obtain ⟨A, c, hv, hown0⟩ := Et h.own
 refine ⟨h.kp.trans (Ag.grown hg (fun k hk => ?_)), (hg.block T (by omega) (fun e => ?_)).trans h.tb, hown, ?_⟩
 ·obtain ⟨h1, h2, cur, h3⟩ := hown0 k hk
  refine ⟨by omega, fun hc => by have := hK k hc; omega, fun o ho => ?_⟩
  rw [h3] at ho
  injection ho with ho
  rw [<- ho]; rfl
 ·have := hown0 T e.symm; omega
 ·have hw : B4 (J6 B v) X w1 := ⟨hg.size, fun b o x hb hc => by
   have hlt : b < X.heap.size := AS hc
   exact (hg.cell_far ⟨b, o, none⟩ hlt (fun e => hb.2 e.symm)).trans hc⟩
  refine Ef.imp (fun t tv ht => ?_) _ _ h.tr
  have ht2 : Ao X (fun b => J6 B v b /\ b < X.heap.size) t tv := Au (fun b hlt hb => ⟨hb, hlt⟩) t tv ht
  refine Au (fun b _ hb => ⟨hb.1.1, fun e => ?_⟩) t tv (As (S := fun b => J6 B v b /\ b < X.heap.size) ⟨hw.1, fun b o x hb hc => hw.2 b o x hb.1 hc⟩ t tv ht2)
  simp [Value.ownBlock] at e
  subst e
  rcases hat with e | e
  ·exact hb.1.2 e
  ·omega
theorem VI (z0 z1 z2 z3 z4 z5 z6 u0 u1 u2 u3 u4 u5 u6 : Value) (rest : List Value) : ∀ (xs : List Value) (n : Nat), xs.length = n →
  (((((((xs ++ z0 :: z1 :: z2 :: z3 :: z4 :: z5 :: z6 :: rest).set n u0).set (n + 1) u1).set (n + 2) u2).set (n + 3) u3).set (n + 4) u4).set (n + 5) u5).set (n + 6) u6 = xs ++ u0 :: u1 :: u2 :: u3 :: u4 :: u5 :: u6 :: rest
 | [], _, rfl => rfl
 | x :: xs, _, rfl => by
  have := VI z0 z1 z2 z3 z4 z5 z6 u0 u1 u2 u3 u4 u5 u6 rest xs xs.length rfl
  simp only [List.cons_append, List.length_cons, List.set_cons_succ, Nat.add_right_comm _ 1 _]
  rw [this]
theorem KZ.cells {N T B : Nat} {K : Nat -> Prop} {c0 c1 c2 c3 c4 c5 v : Value} {g cap : Nat} {tvs : List Value} {trs : List Tr} {Wb W : World} {n : Nat} (h : KZ N T B K c0 c1 c2 c3 c4 c5 v (.slice (some ⟨g, 0, none⟩) (tvs.length + 1) cap) tvs trs Wb W) (hn : tvs.length = n) :
  (W.cell? ⟨g, n * 7, none⟩ = some (.int .i64 0) /\ W.cell? ⟨g, n * 7 + 1, none⟩ = some (.string ⟨#[]⟩) /\ W.cell? ⟨g, n * 7 + 2, none⟩ = some (.int .i64 0) /\ W.cell? ⟨g, n * 7 + 3, none⟩ = some (.int .i64 0) /\ W.cell? ⟨g, n * 7 + 4, none⟩ = some (.string ⟨#[]⟩) /\ W.cell? ⟨g, n * 7 + 5, none⟩ = some (.slice none 0 0) /\ W.cell? ⟨g, n * 7 + 6, none⟩ = some (.slice none 0 0)) ∧
  (∀ j, W.frozen? ⟨g, j, none⟩ = false) /\ W.cell? ⟨T, 6, none⟩ = some v /\ W.frozen? ⟨T, 6, none⟩ = false /\ B <= g /\ g < W.heap.size := by
 subst hn
 rcases h.own.2 with ⟨hv, _⟩ | ⟨g', cap', cur, hv, hb, hg, hnc, hcm, hsz, htake⟩
 ·cases hv
 ·injection hv with e1 e2 e3
  injection e1 with e1; injection e1 with e1
  subst e1
  have hfl := Ef.flat _ _ h.tr
  have hc : ∀ j u, FJ[j]? = some u -> W.cell? ⟨g, tvs.length * 7 + j, none⟩ = some u := fun j u hu => by
   have hj : j < 7 := by
    rcases Nat.lt_or_ge j 7 with hj | hj
    ·exact hj
    ·rw [List.getElem?_eq_none (by simpa [FJ] using hj)] at hu; cases hu
   rw [cell_of_row W g _ cur 30 (0, 0) hg]
   have := congrArg (fun l => l[tvs.length * 7 + j]?) htake
   simp only [List.getElem?_take] at this
   rw [if_pos (by omega), List.getElem?_append_right (by omega), hfl, Nat.add_sub_cancel_left, hu, Array.getElem?_toList] at this
   exact this
  refine ⟨⟨hc 0 _ rfl, hc 1 _ rfl, hc 2 _ rfl, hc 3 _ rfl, hc 4 _ rfl, hc 5 _ rfl, hc 6 _ rfl⟩, fun j => ?_, ?_, ?_, hb, (Gl hg)⟩
  ·simp [World.frozen?, hg]
  ·simp [World.cell?, h.tb]
  ·simp [World.frozen?, h.tb]
theorem KZ.put {N T B : Nat} {K : Nat -> Prop} {c0 c1 c2 c3 c4 c5 v : Value} {g cap : Nat} {tvs : List Value} {trs : List Tr} {Wb W : World} {n : Nat} (h : KZ N T B K c0 c1 c2 c3 c4 c5 v (.slice (some ⟨g, 0, none⟩) (tvs.length + 1) cap) tvs trs Wb W) (hn : tvs.length = n)
  (hNT : N <= T) (hTB : T < B) (hK : ∀ k, K k -> k < B) (hKT : ¬ K T) {t : Tr} {u0 u1 u2 u3 u4 u5 u6 : Value} (ht : Ao W (J6 B (.slice (some ⟨g, 0, none⟩) (tvs.length + 1) cap)) t (.agg #[u0, u1, u2, u3, u4, u5, u6])) (Z : World)
  (hZ : Z = ((((((((W.setCell ⟨g, n * 7, none⟩ u0).setCell ⟨g, n * 7 + 1, none⟩ u1).setCell ⟨g, n * 7 + 2, none⟩ u2).setCell ⟨g, n * 7 + 3, none⟩ u3).setCell ⟨g, n * 7 + 4, none⟩ u4).setCell ⟨g, n * 7 + 5, none⟩ u5).setCell ⟨g, n * 7 + 6, none⟩ u6).setCell ⟨T, 6, none⟩ (.slice (some ⟨g, 0, none⟩) (tvs.length + 1) cap))) :
  KS N T B K c0 c1 c2 c3 c4 c5 (.slice (some ⟨g, 0, none⟩) (tvs.length + 1) cap) (tvs ++ [.agg #[u0, u1, u2, u3, u4, u5, u6]]) (trs ++ [t]) Wb Z := by
 subst hn hZ
 rcases h.own.2 with ⟨hv, _⟩ | ⟨g', cap', cur, hv, hb, hg, hnc, hcm, hsz, htake⟩
 ·cases hv
 ·injection hv with e1 e2 e3
  injection e1 with e1; injection e1 with e1
  subst e1 e3
  have hgT : g ≠ T := by omega
  have hfl := Ef.flat _ _ h.tr
  have s0 := heap_setCell_same W g (tvs.length * 7) _ _ u0 hg
  have s1 := heap_setCell_same _ g (tvs.length * 7 + 1) _ _ u1 s0
  have s2 := heap_setCell_same _ g (tvs.length * 7 + 2) _ _ u2 s1
  have s3 := heap_setCell_same _ g (tvs.length * 7 + 3) _ _ u3 s2
  have s4 := heap_setCell_same _ g (tvs.length * 7 + 4) _ _ u4 s3
  have s5 := heap_setCell_same _ g (tvs.length * 7 + 5) _ _ u5 s4
  have s6 := heap_setCell_same _ g (tvs.length * 7 + 6) _ _ u6 s5
  have s7 := (Bh _ ⟨T, 6, none⟩ (.slice (some ⟨g, 0, none⟩) (tvs.length + 1) cap) g (by simpa using hgT)).trans s6
  have hT : ∀ (X : World) (o : Nat) (u : Value), (X.setCell ⟨g, o, none⟩ u).heap[T]? = X.heap[T]? := fun X o u => Bh X ⟨g, o, none⟩ u T (by simpa using Ne.symm hgT)
  have t7 := heap_setCell_same _ T 6 _ _ (.slice (some ⟨g, 0, none⟩) (tvs.length + 1) cap) ((hT _ (tvs.length * 7 + 6) u6).trans ((hT _ (tvs.length * 7 + 5) u5).trans ((hT _ (tvs.length * 7 + 4) u4).trans ((hT _ (tvs.length * 7 + 3) u3).trans ((hT _ (tvs.length * 7 + 2) u2).trans ((hT _ (tvs.length * 7 + 1) u1).trans ((hT _ (tvs.length * 7) u0).trans h.tb)))))))
  have hNB : N <= g := by omega
  have hKg : ¬ K g := fun hc => by have := hK g hc; omega
  have kk : ∀ (X : World) (o : Nat) (u : Value), Ag Av K N X (X.setCell ⟨g, o, none⟩ u) := fun X o u => Ag.setCell X ⟨g, o, none⟩ u hNB hKg
  have hw : ∀ (X : World) (a : Addr) (u : Value), (a.block = g \/ a.block = T) -> B4 (J6 B (.slice (some ⟨g, 0, none⟩) (tvs.length + 1) cap)) X (X.setCell a u) := fun X a u ha => ⟨by simp, fun b o x hbo hc => by
   have hne : b ≠ a.block := by
    rintro rfl
    rcases ha with e | e
    ·exact hbo.2 (by rw [e]; simp [Value.ownBlock])
    ·have := hbo.1; omega
   exact (World.cell?_of_block (a := ⟨b, o, none⟩) (Bh X a u b hne)).trans hc⟩
  have ww : ∀ (t : Tr) (tv : Value), Ao W (J6 B (.slice (some ⟨g, 0, none⟩) (tvs.length + 1) cap)) t tv -> Ao _ (J6 B (.slice (some ⟨g, 0, none⟩) (tvs.length + 1) cap)) t tv := fun t tv h0 =>
   As (hw _ ⟨T, 6, none⟩ (.slice (some ⟨g, 0, none⟩) (tvs.length + 1) cap) (.inr rfl)) t tv (As (hw _ ⟨g, tvs.length * 7 + 6, none⟩ u6 (.inl rfl)) t tv (As (hw _ ⟨g, tvs.length * 7 + 5, none⟩ u5 (.inl rfl)) t tv (As (hw _ ⟨g, tvs.length * 7 + 4, none⟩ u4 (.inl rfl)) t tv
    (As (hw _ ⟨g, tvs.length * 7 + 3, none⟩ u3 (.inl rfl)) t tv (As (hw _ ⟨g, tvs.length * 7 + 2, none⟩ u2 (.inl rfl)) t tv (As (hw _ ⟨g, tvs.length * 7 + 1, none⟩ u1 (.inl rfl)) t tv (As (hw _ ⟨g, tvs.length * 7, none⟩ u0 (.inl rfl)) t tv h0)))))))
  refine ⟨(((((((h.kp.trans (kk _ (tvs.length * 7) u0)).trans (kk _ (tvs.length * 7 + 1) u1)).trans (kk _ (tvs.length * 7 + 2) u2)).trans (kk _ (tvs.length * 7 + 3) u3)).trans (kk _ (tvs.length * 7 + 4) u4)).trans (kk _ (tvs.length * 7 + 5) u5)).trans (kk _ (tvs.length * 7 + 6) u6)).trans (Ag.setCell _ ⟨T, 6, none⟩ _ hNT hKT), t7, ?_, Ef.snoc (ww _ _ ht) _ _ (Ef.imp ww _ _ h.tr)⟩
  refine ⟨by rw [List.flatMap_append, List.length_append, hfl]; simp [Bf]; omega, .inr ⟨g, cap, _, by simp, hb, s7, by simpa using hnc, hcm, by simpa using hsz, ?_⟩⟩
  obtain ⟨rest, hcur⟩ : ∃ rest, cur.toList = tvs.flatMap Bf ++ .int .i64 0 :: .string ⟨#[]⟩ :: .int .i64 0 :: .int .i64 0 :: .string ⟨#[]⟩ :: .slice none 0 0 :: .slice none 0 0 :: rest := by
   refine ⟨cur.toList.drop ((tvs.length + 1) * 7), ?_⟩
   conv => lhs; rw [<- List.take_append_drop ((tvs.length + 1) * 7) cur.toList, htake]
   simp [FJ]
  simp only [Array.toList_setIfInBounds, Array.toList_set!, hcur]
  rw [VI _ _ _ _ _ _ _ u0 u1 u2 u3 u4 u5 u6 _ _ _ hfl]
  rw [List.flatMap_append, List.length_append, show (tvs.length + [Value.agg #[u0, u1, u2, u3, u4, u5, u6]].length) * 7 = tvs.length * 7 + 7 by simp; omega, <- hfl, List.take_length_add_append]
  simp [Bf]
theorem Uj {W : World} {S : Nat -> Prop} {B g : Nat} (hg : g < W.heap.size) (hS : S g) : ∀ (tvs : List Value) (trs : List Tr) (i : Nat), Ef W S tvs trs -> (∀ j u, (tvs.flatMap Bf)[j]? = some u -> W.cell? ⟨g, i * 7 + j, none⟩ = some u) -> Ao.TsIn W S (some ⟨g, 0, none⟩) i trs
 | [], [], i, _, _ => by unfold Ao.TsIn; trivial
 | tv :: r, t :: ts, i, h, hc => by
  unfold Ao.TsIn
  obtain ⟨k, nm, xk, xn, xs, KA, kl, kc, A, l, c, rfl⟩ := h.1.form
  have hc' : ∀ j u, (Value.int .i64 k :: .string nm :: .int .i64 xk :: .int .i64 xn :: .string xs :: .slice KA kl kc :: .slice A l c :: r.flatMap Bf)[j]? = some u -> W.cell? ⟨g, i * 7 + j, none⟩ = some u := hc
  refine ⟨⟨g, 0, _, rfl, hS, hg, ⟨k, nm, ⟨xk, xn, xs⟩, .slice KA kl kc, .slice A l c, rfl, ?_, ?_, ?_, ?_, ?_, ?_, ?_⟩, h.1⟩, Uj (B := B) hg hS r ts (i + 1) h.2 (fun j u hu => ?_)⟩
  ·rw [Nat.zero_add]; exact hc' 0 _ rfl
  ·rw [Nat.zero_add]; exact hc' 1 _ rfl
  ·rw [Nat.zero_add]; exact hc' 2 _ rfl
  ·rw [Nat.zero_add]; exact hc' 3 _ rfl
  ·rw [Nat.zero_add]; exact hc' 4 _ rfl
  ·rw [Nat.zero_add]; exact hc' 5 _ rfl
  ·rw [Nat.zero_add]; exact hc' 6 _ rfl
  ·have := hc' (7 + j) u (by rw [Nat.add_comm 7 j]; exact hu)
   rw [show (i + 1) * 7 + j = i * 7 + (7 + j) by omega]
   exact this
 | [], _ :: _, _, h, _ => h.elim
 | _ :: _, [], _, h, _ => h.elim
theorem KS.tree {N T B : Nat} {K : Nat -> Prop} {k xk xn : Int} {nm xs : ByteArray} {kv v : Value} {ks : List Sc} {tvs : List Value} {trs : List Tr} {Wb W : World} (h : KS N T B K (.int .i64 k) (.string nm) (.int .i64 xk) (.int .i64 xn) (.string xs) kv v tvs trs Wb W) (hk : Cy W kv ks) (hf : Gx (fun b => B <= b) kv) :
  Ao W (fun b => B <= b) (.mk k nm ⟨xk, xn, xs⟩ ks trs) (.agg #[.int .i64 k, .string nm, .int .i64 xk, .int .i64 xn, .string xs, kv, v]) := by
 have htr : Ef W (fun b => B <= b) tvs trs := Ef.imp (fun t tv ht => Au (fun b _ hb => hb.1) t tv ht) _ _ h.tr
 have hl := Ef.len _ _ htr
 unfold Ao
 rcases h.own.2 with ⟨rfl, h0⟩ | ⟨g, cap, cur, rfl, hb, hg, hnc, hcm, hsz, htake⟩
 ·have e1 : tvs = [] := List.eq_nil_of_length_eq_zero h0
  subst e1
  have e2 : trs = [] := List.eq_nil_of_length_eq_zero hl.symm
  subst e2
  exact ⟨kv, none, 0, rfl, hk, hf, by unfold Ao.TsIn; trivial⟩
 ·refine ⟨kv, some ⟨g, 0, none⟩, cap, by rw [hl], hk, hf, Uj (B := B) (Gl hg) hb tvs trs 0 htr (fun j u hu => ?_)⟩
  rw [Nat.zero_mul, Nat.zero_add, cell_of_row W g j cur 30 (0, 0) hg]
  rw [<- htake, List.getElem?_take] at hu
  split at hu
  ·rw [Array.getElem?_toList] at hu; exact hu
  ·cases hu
def N6 : It -> Tr
 | .val _ t => t
 | .par _ _ t => t
 | .bad _ => CL
def PJ (n d : Nat) (ts : List AV) (r : FR) (pre : List It) (q : Nat) : Prop := q <= ts.length /\ pre.length <= q /\ ∃ m, m <= n /\ 2 * (ts.length - q) + 2 <= m /\ Cz m d (AP (ts.drop q)) (pre.map N6) = r
def RP (n d : Nat) (ts : List AV) (r : FR) (pre : List It) (x : It) (q : Nat) : Prop := (∃ tv t, x = .val tv t) /\ q <= ts.length /\ pre.length <= q /\ ∃ m, m <= n /\ 2 * (ts.length - q) <= m ∧
 (if hk (AP (ts.drop q)) = 7 then Cz m d (AP (ts.drop (q + 1))) (pre.map N6 ++ [N6 x]) else if hk (AP (ts.drop q)) = 9 then .ok (BA (pre.map N6 ++ [N6 x])) (AP (ts.drop (q + 1))) else .bad 91) = r
def UJ (ts : List AV) (r : FR) (pre : List It) (q : Nat) : Prop := q <= ts.length /\ (if DT ts q [9] = true then .ok (BA (pre.map N6)) (AP (ts.drop (q + 1))) else .bad 91) = r
def TI (r : FR) (x : It) : Prop := ∃ e, x = .bad e /\ r = .bad e
theorem Ta {n d : Nat} {ts : List AV} {r : FR} {pre : List It} {q : Nat} (h : PJ n d ts r pre q) (hk : DT ts q [9] = true) : UJ ts r pre q := by
 obtain ⟨hq, hpq, m, hm, h2, h3⟩ := h
 obtain ⟨m', rfl⟩ : ∃ m', m = m' + 1 := ⟨m - 1, by omega⟩
 refine ⟨hq, ?_⟩
 rw [if_pos hk, <- h3, JT, <- Fv]
 rw [CT _ _ (by decide), decide_eq_true_eq] at hk
 rw [if_pos hk]
theorem TJ {n d : Nat} {ts : List AV} {r : FR} {pre : List It} {q : Nat} (h : PJ n d ts r pre q) (hk : DT ts q [9] = false) :
  ∃ m, m < n /\ 2 * (ts.length - q) + 1 <= m /\ (∀ e, AZ m (d + 1) (AP (ts.drop q)) = .bad e -> r = .bad e) ∧
   (∀ tv t q', q' <= ts.length -> AZ m (d + 1) (AP (ts.drop q)) = .ok t (AP (ts.drop q')) -> q < q' /\ RP n d ts r pre (.val tv t) q') := by
 obtain ⟨hq, hpq, m, hm, h2, h3⟩ := h
 obtain ⟨m', rfl⟩ : ∃ m', m = m' + 1 := ⟨m - 1, by omega⟩
 rw [CT _ _ (by decide), decide_eq_false_iff_not] at hk
 rw [JT, if_neg hk] at h3
 refine ⟨m', by omega, by omega, fun e he => ?_, fun tv t q' hq' he => ?_⟩
 ·rw [he] at h3; exact h3.symm
 ·have hl := J5 he
  rw [FA, FA] at hl
  rw [he] at h3
  simp only [Fv] at h3
  exact ⟨by omega, ⟨tv, t, rfl⟩, hq', by omega, m', by omega, by omega, h3⟩
theorem Vg {n d : Nat} {ts : List AV} {r : FR} {pre : List It} {x : It} {q : Nat} (h : RP n d ts r pre x q) (hk : DT ts q [7] = true) : PJ n d ts r (pre ++ [x]) (q + 1) := by
 obtain ⟨_, hq, hpq, m, hm, h2, h3⟩ := h
 have hlt := Hc hk
 rw [CT _ _ (by decide), decide_eq_true_eq] at hk
 rw [if_pos hk] at h3
 exact ⟨by omega, by simp; omega, m, hm, by omega, by rw [List.map_append]; exact h3⟩
theorem U7 {n d : Nat} {ts : List AV} {r : FR} {pre : List It} {x : It} {q : Nat} (h : RP n d ts r pre x q) (hk : DT ts q [7] = false) : UJ ts r (pre ++ [x]) q := by
 obtain ⟨_, hq, hpq, m, hm, h2, h3⟩ := h
 rw [CT _ _ (by decide), decide_eq_false_iff_not] at hk
 rw [if_neg hk] at h3
 refine ⟨hq, ?_⟩
 rw [CT _ _ (by decide), List.map_append]
 simp only [decide_eq_true_eq]
 exact h3
theorem PQ (n m R : Nat) (v : Value) (ts : List AV) (b1 b2 d q : Nat) (w : World) (hV : Jb m R v ts) (h : Rd w R v ts q) (hq : q <= ts.length) (hd : d <= 24) (hm : 2 * (ts.length - q) + 1 <= m)
  (h1 : Boxed w b1 259 (.pointer (some ⟨R, 0, none⟩))) (h2 : Boxed w b2 3 (.int .i64 d)) :
  Calls Tryz.prog 200 #[.pointer (some ⟨b1, 0, none⟩), .pointer (some ⟨b2, 0, none⟩)] w (Cm w.heap.size R v ts (AZ m (d + 1) (AP (ts.drop q))) w) := by
 have hv := hV (d + 1) q w h hq (by omega) hm
 rw [show ((d + 1 : Nat) : Int) = (d : Int) + 1 by omega] at hv
 obtain ⟨r, hr⟩ : ∃ r, AZ m (d + 1) (AP (ts.drop q)) = r := ⟨_, rfl⟩
 rw [hr] at hv |-
 have c1 := h1.cell
 have c2 := h2.cell
 clear hr h h1 h2 hV
 go_enter Tryz.func200, Tryz.ntmps200
 go_wp2_with fail
 refine hv.mono ?_
 intro e w1 hP
 have HP := hid hP
 cases r with
 | ok t rest =>
  obtain ⟨q', tv, h1, h2, rfl, h4, h5, h6⟩ := hP
  clear h1 h2 h4 h5 h6 hv
  go_wp2
  go_ret
  exact HP.out
 | bad er =>
  obtain ⟨rfl, h6⟩ := hP
  unfold CZ at HP |-
  clear h6 hv
  go_wp2
  go_ret
  exact HP.out
theorem I7 (k : Int) (nm : ByteArray) (xk xn : Int) (xs : ByteArray) (KA : Option Addr) (kl kc : Nat) (A : Option Addr) (l c : Nat) (w : World) :
  Calls Tryz.prog 291 #[.agg #[.int .i64 k, .string nm, .int .i64 xk, .int .i64 xn, .string xs, .slice KA kl kc, .slice A l c]] w fun e w' =>
   e = .returned (.agg #[.int .i64 k, .string nm, .int .i64 xk, .int .i64 xn, .string xs, .slice KA kl kc, .slice A l c]) /\ Below w.heap.size w w' := by
 have hC := IS w (.int .i64 k) (.string nm) (.int .i64 xk) (.int .i64 xn) (.string xs) (.slice KA kl kc) (.slice A l c) 308
 go_enter Tryz.func291, Tryz.ntmps291
 go_wp2
 have hD := IS (w.alloc (.cells #[.int .i64 k, .string nm, .int .i64 xk, .int .i64 xn, .string xs, .slice KA kl kc, .slice A l c] 308)) (.int .i64 k) (.string nm) (.int .i64 xk) (.int .i64 xn) (.string xs) (.slice KA kl kc) (.slice A l c) 30
 rw [World.size_alloc] at hD
 obtain ⟨c0, c1, c2, c3, c4, c5, c6⟩ := hD
 refine bodyPost_ret (v := .agg #[.int .i64 k, .string nm, .int .i64 xk, .int .i64 xn, .string xs, .slice KA kl kc, .slice A l c]) (by simp [results, Tryz.results291, go_sem, c0, c1, c2, c3, c4, c5, c6]) rfl ⟨rfl, ((Bq _ w).alloc Nr _).alloc (by simp) _⟩
theorem IP (n : Nat) (x : Value) (w : World) : (Go.method (n + 1) 308 x "sigillary/flow.tree").run Tryz.prog w = .ok (291, x) w := by kernel_rfl
theorem IK : ∀ u ∈ FJ, u.oneCell' = true := by
 intro u hu
 simp only [FJ, List.mem_cons, List.not_mem_nil, or_false] at hu
 rcases hu with h | h | h | h | h | h | h <;> (subst h; rfl)
theorem BW (w : World) (a b : Addr) (u v : Value) (h : a.block ≠ b.block) : (w.setCell a u).setCell b v = (w.setCell b v).setCell a u := by
 unfold World.setCell
 congr 1
 apply Array.ext
 ·simp
 ·intro i h1 h2
  simp only [Array.getElem_modify]
  by_cases ha : a.block = i
  ·have hb : ¬ b.block = i := fun e => h (ha.trans e.symm)
   simp [ha, hb]
  ·simp [ha]
theorem KS.base {N T B : Nat} {K : Nat -> Prop} {c0 c1 c2 c3 c4 c5 v : Value} {tvs : List Value} {trs : List Tr} {Wb W : World} (h : KS N T B K c0 c1 c2 c3 c4 c5 v tvs trs Wb W) : KS N T B K c0 c1 c2 c3 c4 c5 v tvs trs W W := ⟨Ag.refl _ _ _ _, h.tb, h.own, h.tr⟩
theorem Ag.less {p : Obj -> Bool} {K K' : Nat -> Prop} {n : Nat} {X Y : World} (h : Ag p K n X Y) (hk : ∀ k, K' k -> K k) : Ag p K' n X Y := ⟨h.os, h.tape, h.output, h.size, fun k o ho hc => h.block k o ho (hc.imp id (fun x => x.imp (hk k) id))⟩
theorem Hn (W : World) (g T q : Nat) (hne : g ≠ T) (x u0 u1 u2 u3 u4 u5 u6 : Value) :
  (((((((W.setCell ⟨T, 6, none⟩ x).setCell ⟨g, q, none⟩ u0).setCell ⟨g, q + 1, none⟩ u1).setCell ⟨g, q + 2, none⟩ u2).setCell ⟨g, q + 3, none⟩ u3).setCell ⟨g, q + 4, none⟩ u4).setCell ⟨g, q + 5, none⟩ u5).setCell ⟨g, q + 6, none⟩ u6 =
  (((((((W.setCell ⟨g, q, none⟩ u0).setCell ⟨g, q + 1, none⟩ u1).setCell ⟨g, q + 2, none⟩ u2).setCell ⟨g, q + 3, none⟩ u3).setCell ⟨g, q + 4, none⟩ u4).setCell ⟨g, q + 5, none⟩ u5).setCell ⟨g, q + 6, none⟩ u6).setCell ⟨T, 6, none⟩ x := by
 rw [BW W ⟨T, 6, none⟩ ⟨g, q, none⟩ x u0 (Ne.symm hne), BW _ ⟨T, 6, none⟩ ⟨g, q + 1, none⟩ x u1 (Ne.symm hne), BW _ ⟨T, 6, none⟩ ⟨g, q + 2, none⟩ x u2 (Ne.symm hne), BW _ ⟨T, 6, none⟩ ⟨g, q + 3, none⟩ x u3 (Ne.symm hne), BW _ ⟨T, 6, none⟩ ⟨g, q + 4, none⟩ x u4 (Ne.symm hne), BW _ ⟨T, 6, none⟩ ⟨g, q + 5, none⟩ x u5 (Ne.symm hne), BW _ ⟨T, 6, none⟩ ⟨g, q + 6, none⟩ x u6 (Ne.symm hne)]
structure LW (w : World) (R : Nat) (v : Value) (p N : Nat) (d kk endk : Int) (fv : Value) (W : World) : Prop where
 sz : W.heap.size = N + 7
 b0 : Boxed W N 259 (.pointer (some ⟨R, 0, none⟩))
 b1 : Boxed W (N + 1) 3 (.int .i64 d)
 b2 : Boxed W (N + 1 + 1) 265 .nilIface
 tb : W.heap[N + 1 + 1 + 1]? = some (.cells #[.int .i64 kk, .string ⟨#[]⟩, .int .i64 0, .int .i64 0, .string ⟨#[]⟩, .slice none 0 0, .slice none 0 0] 30)
 b4 : Boxed W (N + 1 + 1 + 1 + 1) 259 (.pointer (some ⟨R, 0, none⟩))
 b5 : Boxed W (N + 1 + 1 + 1 + 1 + 1) 3 (.int .i64 endk)
 b6 : Boxed W (N + 1 + 1 + 1 + 1 + 1 + 1) 311 fv
 rf : RF W R v (p + 1)
 md : Ax R w W
theorem IB {w : World} {R : Nat} {v : Value} {ts : List AV} {p N : Nat} (h : Rd w R v ts p) (hN : w.heap.size = N) (d kk endk : Int) (fv : Value) (W : World)
  (hW : W = (((((((w.alloc (.cells #[.pointer (some ⟨R, 0, none⟩)] 259)).alloc (.cells #[.int .i64 d] 3)).alloc (.cells #[.nilIface] 265)).setCell ⟨R, 1, none⟩ (.int .i64 ((p : Int) + 1))).alloc
   (.cells #[.int .i64 kk, .string ⟨#[]⟩, .int .i64 0, .int .i64 0, .string ⟨#[]⟩, .slice none 0 0, .slice none 0 0] 30)).alloc (.cells #[.pointer (some ⟨R, 0, none⟩)] 259)).alloc (.cells #[.int .i64 endk] 3)).alloc (.cells #[fv] 311)) :
  LW w R v p N d kk endk fv W := by
 subst hN hW
 have hlt := h.rf.lt
 have s1 : ∀ (X : World) (o : Obj) (n : Nat), X.heap.size = n -> (X.alloc o).heap.size = n + 1 := fun X o n hn => by rw [World.size_alloc, hn]
 have z1 := s1 w (.cells #[.pointer (some ⟨R, 0, none⟩)] 259) _ rfl
 have z2 := s1 _ (.cells #[.int .i64 d] 3) _ z1
 have z3 := s1 _ (.cells #[.nilIface] 265) _ z2
 have z3' : ((((w.alloc (.cells #[.pointer (some ⟨R, 0, none⟩)] 259)).alloc (.cells #[.int .i64 d] 3)).alloc (.cells #[.nilIface] 265)).setCell ⟨R, 1, none⟩ (.int .i64 ((p : Int) + 1))).heap.size = w.heap.size + 1 + 1 + 1 := by rw [World.size_setCell]; exact z3
 have z4 := s1 _ (.cells #[.int .i64 kk, .string ⟨#[]⟩, .int .i64 0, .int .i64 0, .string ⟨#[]⟩, .slice none 0 0, .slice none 0 0] 30) _ z3'
 have z5 := s1 _ (.cells #[.pointer (some ⟨R, 0, none⟩)] 259) _ z4
 have z6 := s1 _ (.cells #[.int .i64 endk] 3) _ z5
 have z7 := s1 _ (.cells #[fv] 311) _ z6
 have far : ∀ (X : World) (k : Nat) (t : TypeId) (u : Value), k ≠ R -> Boxed X k t u -> Boxed (X.setCell ⟨R, 1, none⟩ (.int .i64 ((p : Int) + 1))) k t u := fun X k t u hk hb => (Bh X ⟨R, 1, none⟩ _ k hk).trans hb
 have e1 : ((p + 1 : Nat) : Int) = (p : Int) + 1 := by omega
 have hr : RF ((((w.alloc (.cells #[.pointer (some ⟨R, 0, none⟩)] 259)).alloc (.cells #[.int .i64 d] 3)).alloc (.cells #[.nilIface] 265)).setCell ⟨R, 1, none⟩ (.int .i64 ((p : Int) + 1))) R v (p + 1) := by
  rw [<- e1]; exact (((h.rf.alloc _).alloc _).alloc _).set1 (p + 1)
 have n2 := Boxed.new (w.alloc (.cells #[.pointer (some ⟨R, 0, none⟩)] 259)) 3 (.int .i64 d)
 rw [z1] at n2
 have n3 := Boxed.new ((w.alloc (.cells #[.pointer (some ⟨R, 0, none⟩)] 259)).alloc (.cells #[.int .i64 d] 3)) 265 .nilIface
 rw [z2] at n3
 refine ⟨z7, ?_, ?_, ?_, ?_, ?_, ?_, ?_, (((hr.alloc _).alloc _).alloc _).alloc _, (((((((((Ax.refl R w).alloc _).alloc _).alloc _).set 1 _).alloc _).alloc _).alloc _).alloc _)⟩
 ·exact ((((far _ _ _ _ (by omega) (((Boxed.new w _ _).alloc _).alloc _)).alloc _).alloc _).alloc _).alloc _
 ·exact ((((far _ _ _ _ (by omega) (n2.alloc _)).alloc _).alloc _).alloc _).alloc _
 ·exact ((((far _ _ _ _ (by omega) n3).alloc _).alloc _).alloc _).alloc _
 ·have := Wn ((((w.alloc (.cells #[.pointer (some ⟨R, 0, none⟩)] 259)).alloc (.cells #[.int .i64 d] 3)).alloc (.cells #[.nilIface] 265)).setCell ⟨R, 1, none⟩ (.int .i64 ((p : Int) + 1))) (.cells #[.int .i64 kk, .string ⟨#[]⟩, .int .i64 0, .int .i64 0, .string ⟨#[]⟩, .slice none 0 0, .slice none 0 0] 30)
  rw [z3'] at this
  exact Aa (Aa (Aa this ((Bq _ _).alloc Nr _)) ((Bq _ _).alloc Nr _)) ((Bq _ _).alloc Nr _)
 ·have := Boxed.new (((((w.alloc (.cells #[.pointer (some ⟨R, 0, none⟩)] 259)).alloc (.cells #[.int .i64 d] 3)).alloc (.cells #[.nilIface] 265)).setCell ⟨R, 1, none⟩ (.int .i64 ((p : Int) + 1))).alloc (.cells #[.int .i64 kk, .string ⟨#[]⟩, .int .i64 0, .int .i64 0, .string ⟨#[]⟩, .slice none 0 0, .slice none 0 0] 30)) 259 (.pointer (some ⟨R, 0, none⟩))
  rw [z4] at this
  exact (this.alloc _).alloc _
 ·have := Boxed.new ((((((w.alloc (.cells #[.pointer (some ⟨R, 0, none⟩)] 259)).alloc (.cells #[.int .i64 d] 3)).alloc (.cells #[.nilIface] 265)).setCell ⟨R, 1, none⟩ (.int .i64 ((p : Int) + 1))).alloc (.cells #[.int .i64 kk, .string ⟨#[]⟩, .int .i64 0, .int .i64 0, .string ⟨#[]⟩, .slice none 0 0, .slice none 0 0] 30)).alloc (.cells #[.pointer (some ⟨R, 0, none⟩)] 259)) 3 (.int .i64 endk)
  rw [z5] at this
  exact this.alloc _
 ·have := Wn (((((((w.alloc (.cells #[.pointer (some ⟨R, 0, none⟩)] 259)).alloc (.cells #[.int .i64 d] 3)).alloc (.cells #[.nilIface] 265)).setCell ⟨R, 1, none⟩ (.int .i64 ((p : Int) + 1))).alloc (.cells #[.int .i64 kk, .string ⟨#[]⟩, .int .i64 0, .int .i64 0, .string ⟨#[]⟩, .slice none 0 0, .slice none 0 0] 30)).alloc (.cells #[.pointer (some ⟨R, 0, none⟩)] 259)).alloc (.cells #[.int .i64 endk] 3)) (.cells #[fv] 311)
  rw [z6] at this
  exact this
theorem Q6 (n R : Nat) (v : Value) (ts : List AV) (d N : Nat) (r : FR) (hV : ∀ m, m < n -> Jb m R v ts) (hd : d <= 24) (pre : List It) (q : Nat) (W : World) (hS : PJ n d ts r pre q) (hk : DT ts q [9] = false) (h : Rd W R v ts q)
  (hB : Boxed W N 259 (.pointer (some ⟨R, 0, none⟩)) /\ Boxed W (N + 1) 3 (.int .i64 d)) :
  Calls Tryz.prog 200 #[.pointer (some ⟨N, 0, none⟩), .pointer (some ⟨N + 1, 0, none⟩)] W (SE R v (fun x q' => q < q' /\ q' <= ts.length /\ RP n d ts r pre x q') (TI r) W) := by
 obtain ⟨m, hm, h2, hb, ho⟩ := TJ hS hk
 refine (PQ n m R v ts N (N + 1) d q W (hV m hm) h hS.1 hd h2 hB.1 hB.2).mono ?_
 intro e w1 hP
 cases hv : AZ m (d + 1) (AP (ts.drop q)) with
 | ok t rest =>
  rw [hv] at hP
  obtain ⟨q', tv, hq', hrest, he, ht, hr, hmd⟩ := hP
  rw [hrest] at hv
  obtain ⟨h3, h4⟩ := ho tv t q' hq' hv
  exact ⟨.val tv t, he, ht, hmd, .inl ⟨rfl, q', ⟨h3, hq', h4⟩, hr⟩⟩
 | bad er =>
  rw [hv] at hP
  exact ⟨.bad er, hP.1, trivial, hP.2, .inr ⟨rfl, er, rfl, hb er hv⟩⟩
theorem KS.turn {N T B m R : Nat} {K : Nat -> Prop} {c0 c1 c2 c3 c4 c5 v : Value} {tvs : List Value} {trs : List Tr} {Wb X Y : World} (h : KS N T B K c0 c1 c2 c3 c4 c5 v tvs trs Wb X) (ht : Af (fun k => k = R) m X Y) (hRT : R ≠ T) (hRB : R < B) : KS N T B K c0 c1 c2 c3 c4 c5 v tvs trs Y Y :=
 ⟨Ag.refl _ _ _ _, ht.heap h.tb (Ne.symm hRT) rfl, ⟨h.own.1, by
  rcases h.own.2 with h0 | ⟨g, cap, cur, hv, hb, hg, hr⟩
  ·exact .inl h0
  ·exact .inr ⟨g, cap, cur, hv, hb, ht.heap hg (by omega) rfl, hr⟩⟩, Ef.imp (fun t tv h0 => As (B4.of_turn ht (fun k hk hO => by have := hO.1; omega)) t tv h0) _ _ h.tr⟩
def KB (N k : Nat) : Prop := N <= k /\ k < N + 7 /\ k ≠ N + 1 + 1 /\ k ≠ N + 1 + 1 + 1
def KA (N k : Nat) : Prop := N <= k /\ k < N + 7 /\ k ≠ N + 1 + 1 + 1
structure LI (w : World) (N R : Nat) (pre : List It) (W : World) : Prop where
 ok : ¬ MW pre
 sz : N + 7 <= W.heap.size
 md : Ax R w W
 b0 : Boxed W N 259 (.pointer (some ⟨R, 0, none⟩))
 res : Boxed W (N + 1 + 1) 265 .nilIface
 ks : ∃ vk tvs, KS N (N + 1 + 1 + 1) (N + 7) (KA N) (.int .i64 1) (.string ⟨#[]⟩) (.int .i64 0) (.int .i64 0) (.string ⟨#[]⟩) (.slice none 0 0) vk tvs (pre.map N6) W W
def LX (w : World) (N R : Nat) (r : FR) (co : Code) (pre : List It) (W : World) : Prop := co = .ret /\ ∃ e, Hid (r = .bad e) /\ Boxed W (N + 1 + 1) 265 (CZ e) /\ Ax R w W
theorem LI.turn {w X Y : World} {N R m : Nat} {pre : List It} (h : LI w N R pre X) (hR : R < N) (hw : w.heap.size <= m) (ht : Af (fun k => k = R) m X Y) : LI w N R pre Y := by
 obtain ⟨vk, tvs, hk⟩ := h.ks
 exact ⟨h.ok, Nat.le_trans h.sz ht.size, Af.trans h.md (ht.mono hw), Ah h.b0 ht (by omega), Ah h.res ht (by omega), vk, tvs, hk.turn ht (by omega) (by omega)⟩
theorem LX.turn {w X Y : World} {N R m : Nat} {r : FR} {co : Code} {pre : List It} (h : LX w N R r co pre X) (hR : R < N) (hw : w.heap.size <= m) (ht : Af (fun k => k = R) m X Y) : LX w N R r co pre Y := by
 obtain ⟨h1, e, h2, h3, h4⟩ := h
 exact ⟨h1, e, h2, Ah h3 ht (by omega), Af.trans h4 (ht.mono hw)⟩
theorem Qn {S : Nat -> Prop} {W : World} {D : Nat} {ds : List Deferred} (hD : W.heap[D]? = some (.deferred (some ds))) (o : Obj) : B4 S W (W.putObj D o) := ⟨by simp, fun b o' x _ hc => by
 have hne : b ≠ D := by
  rintro rfl
  simp [World.cell?, hD] at hc
 exact (World.cell?_of_block (w := W) (a := ⟨b, o', none⟩) (World.putObj_heap_other hne)).trans hc⟩
theorem Cm.form {N R : Nat} {v : Value} {ts : List AV} {r : FR} {w W' : World} {e : Ending} (h : Cm N R v ts r w e W') : (∃ (T : TypeId) (x : Value), e = .returned (.iface T x)) /\ Ax R w W' := by
 cases r with
 | ok t rest => obtain ⟨q, tv, _, _, h3, _, _, h6⟩ := h; exact ⟨⟨_, _, h3⟩, h6⟩
 | bad er => exact ⟨⟨_, _, h.1⟩, h.2⟩
theorem Cm.shut {N R D : Nat} {v : Value} {ts : List AV} {r : FR} {w W W' : World} {e : Ending} {u : Value} (hP : Cm (N + 7) R v ts r W e W') (hm : Ax R w W) (hw : w.heap.size = N) (hR : R < N) (hD : N + 7 <= D) (hK : W.heap[D]? = some (.deferred (some []))) (he : e = .returned u) :
  (W'.setCell ⟨N + 1 + 1, 0, none⟩ u).heap[D]? = some (.deferred (some [])) /\ Cm N R v ts r w (.returned u) ((W'.setCell ⟨N + 1 + 1, 0, none⟩ u).putObj D (.deferred none)) := by
 have hmd : Ax R W W' := by
  cases r with
  | ok t rest => obtain ⟨q, tv, _, _, _, _, _, h⟩ := hP; exact h
  | bad er => exact hP.2
 have hK1 : W'.heap[D]? = some (.deferred (some [])) := hmd.heap hK (by omega)
 have hK2 : (W'.setCell ⟨N + 1 + 1, 0, none⟩ u).heap[D]? = some (.deferred (some [])) := (Bh W' ⟨N + 1 + 1, 0, none⟩ u D (by simp; omega)).trans hK1
 have hmd2 : Ax R w ((W'.setCell ⟨N + 1 + 1, 0, none⟩ u).putObj D (.deferred none)) := Af.trans ((hm.trans hmd).put (a := ⟨N + 1 + 1, 0, none⟩) (by simp; omega) u) (Af.putObj _ hK2 (by omega) rfl)
 refine ⟨hK2, ?_⟩
 cases r with
 | ok t rest =>
  obtain ⟨q, tv, h1, h2, h3, h4, h5, _⟩ := hP
  rw [he] at h3
  refine ⟨q, tv, h1, h2, h3, ?_, ?_, hmd2⟩
  ·refine Au (S := fun b => N + 7 <= b) (fun b _ hb => by omega) t tv (As (Qn hK2 _) t tv (As (S := fun b => N + 7 <= b) ⟨by simp, fun b o x hb hc => ?_⟩ t tv h4))
   exact (World.cell?_of_block (w := W') (a := ⟨b, o, none⟩) (Bh W' ⟨N + 1 + 1, 0, none⟩ u b (by simp; omega))).trans hc
  ·exact (World.putObj_heap_other (by omega)).trans ((Bh W' ⟨N + 1 + 1, 0, none⟩ u R (by simp; omega)).trans h5)
 | bad er => exact ⟨by rw [<- he]; exact hP.1, hmd2⟩
theorem SB (n R : Nat) (v : Value) (ts : List AV) (p d : Nat) (w : World) (hV : ∀ m, m < n -> Jb m R v ts) (hx : Fx ts) (h : Rd w R v ts p) (hp : p < ts.length) (hd : d <= 24) (hn : 2 * (ts.length - (p + 1)) + 2 <= n) :
  Calls Tryz.prog 186 #[.pointer (some ⟨R, 0, none⟩), .int .i64 d] w (Cm w.heap.size R v ts (Cz n d (AP (ts.drop (p + 1))) []) w) := by
 obtain ⟨r, hr⟩ : ∃ r, Cz n d (AP (ts.drop (p + 1))) [] = r := ⟨_, rfl⟩
 rw [hr]
 have HS0 := hid (show PJ n d ts r [] (p + 1) from ⟨by omega, by simp, n, Nat.le_refl _, by omega, hr⟩)
 clear hr
 obtain ⟨r0, r1, f0, f1⟩ := (((h.alloc (.cells #[.pointer (some ⟨R, 0, none⟩)] 259)).alloc (.cells #[.int .i64 d] 3)).alloc (.cells #[.nilIface] 265)).rf.cells
 have hlt := h.rf.lt
 have hpl : p <= 1000000 := by have := hx.len; omega
 refine (callsIn_wide (n := 0)).1 ?_
 refine callsIn_of_wp_marks Tryz.func186 rfl trivial ?_ rfl
 refine wpIn_wide.2 ?_
 simp only [Tryz.ntmps186, List.size_toArray, List.length_cons, List.length_nil, Nat.reduceAdd, Nat.reduceSub, Array.replicate_succ, Array.replicate_zero, List.push_toArray, List.append_toArray, List.nil_append, List.cons_append]
 obtain ⟨N, hN⟩ : ∃ N, w.heap.size = N := ⟨_, rfl⟩
 go_wp2_with fail
 refine (KE R 9 200 #[.pointer (some ⟨N, 0, none⟩), .pointer (some ⟨N + 1, 0, none⟩)] _).mono ?_
 rintro e w1 ⟨rfl, hw1⟩
 have hL := IB h hN d 1 9 (.func (.func 200) #[] #[.pointer (some ⟨N, 0, none⟩), .pointer (some ⟨N + 1, 0, none⟩)]) w1 hw1
 have hsz : (((((w.alloc (.cells #[.pointer (some ⟨R, 0, none⟩)] 259)).alloc (.cells #[.int .i64 d] 3)).alloc (.cells #[.nilIface] 265)).setCell ⟨R, 1, none⟩ (.int .i64 ((p : Int) + 1))).alloc
   (.cells #[.int .i64 1, .string ⟨#[]⟩, .int .i64 0, .int .i64 0, .string ⟨#[]⟩, .slice none 0 0, .slice none 0 0] 30)).heap.size = N + 1 + 1 + 1 + 1 := by simp [hN]
 rw [hsz]
 clear hw1 hsz r0 r1 f0 f1
 have HL := hid hL
 clear hL
 have HR := hid h
 have hNw : w.heap.size <= N := by omega
 go_wp2
 refine (wpIn_wide (n := 0)).1 ?_
 refine Ft (gf := 215) (lb := #[.pointer (some ⟨N + 1 + 1 + 1 + 1, 0, none⟩), .pointer (some ⟨N + 1 + 1 + 1 + 1 + 1, 0, none⟩), .pointer (some ⟨N + 1 + 1 + 1 + 1 + 1 + 1, 0, none⟩)]) rfl (enters_of Tryz.func215 (by kernel_rfl) rfl)
  (Iz R v ts (N + 1 + 1 + 1 + 1) (N + 1 + 1 + 1 + 1 + 1) (N + 1 + 1 + 1 + 1 + 1 + 1) (KB N) w p 9 (by decide) 200 #[.pointer (some ⟨N, 0, none⟩), .pointer (some ⟨N + 1, 0, none⟩)]
   (enters_of Tryz.func200 (by kernel_rfl) rfl) hx h
   (fun W => Boxed W N 259 (.pointer (some ⟨R, 0, none⟩)) /\ Boxed W (N + 1) 3 (.int .i64 d)) (fun X Y hb hm => ⟨Ah hb.1 hm (by omega), Ah hb.2 hm (by omega)⟩)
   (fun X Y hb hk => ⟨Am hb.1 hk (.inr ⟨by omega, by omega, by omega, by omega⟩), Am hb.2 hk (.inr ⟨by omega, by omega, by omega, by omega⟩)⟩) (by omega) (by omega) (by omega) ⟨by omega, by omega, by omega, by omega⟩ ⟨by omega, by omega, by omega, by omega⟩ ⟨by omega, by omega, by omega, by omega⟩
   (PJ n d ts r) (RP n d ts r) (UJ ts r) (TI r) (p + 1) HS0.out (fun pre q hs => hs.1) (fun pre q hs hk => Ta hs hk) (fun pre q W hs hk hrd hb => Q6 n R v ts d N r hV hd pre q W hs hk hrd hb)
   (fun pre x q ht hk => Vg ht hk) (fun pre x q ht hk => U7 ht hk))
  (fun Y hY _ => ⟨HL.out.md.below hY, HL.out.rf.below hY, Ac HL.out.b4 hY, Ac HL.out.b5 hY, Ac HL.out.b6 hY, Ac HL.out.b0 hY, Ac HL.out.b1 hY⟩)
  (fun k hk => by have := HL.out.sz; omega) (fun hk => by have := HL.out.sz; have := hk.2.1; omega) (fun hk => by have := HL.out.sz; have := hk.2.1; omega) (by have := HL.out.sz; omega) (fun x => rfl)
  (LI w N R) (LX w N R r) (fun s X Y hf ht => by obtain ⟨q, h1, h2⟩ := hf; exact ⟨q, h1, ht.heap h2 (fun f => f) rfl⟩)
  (fun s X Y hs ht => hs.turn (by omega) (by have := HL.out.sz; omega) ht) (fun c s X Y hs ht => hs.turn (by omega) (by have := HL.out.sz; omega) ht) (fun s X hb hs => hs.ok hb)
  ⟨(fun hh => by obtain ⟨x, hx, _⟩ := hh; cases hx), by have := HL.out.sz; omega, HL.out.md, HL.out.b0, HL.out.b2, .slice none 0 0, [], ⟨Ag.refl _ _ _ _, HL.out.tb, ⟨rfl, .inl ⟨rfl, rfl⟩⟩, trivial⟩⟩ ?round ?done ?stop
 case round =>
  rintro l pre x W0 W hl hI hturn hadm
  have hsz := HL.out.sz
  have hIW := hI.turn (by omega) (by omega) hturn
  have hsm1 := L3
  have hsm2 := La
  cases x with
  | par pv xk t =>
   obtain ⟨_, ⟨_, q', ⟨⟨_, _, hc⟩, _⟩⟩ | ⟨hc, _⟩⟩ := hadm
   ·cases hc
   ·cases hc
  | bad er =>
   obtain ⟨_, ⟨hc, _⟩ | ⟨_, er', hc, hrb⟩⟩ := hadm
   ·cases hc
   ·injection hc with hc
    subst hc
    have HRB := hid hrb
    clear hrb hI hturn
    unfold Mt LO CZ
    gi_wp2
    refine ⟨Ag.refl _ _ _ _, fun Wb ht _ => ?_⟩
    have hIb := hIW.turn (by omega) (by omega) ht
    have b2 := hIb.res.cell
    have f2 := hIb.res.frozen
    have HIB := hid hIb
    have hbz : N + 1 + 1 < Wb.heap.size := by have := hIb.sz; omega
    clear hIW hIb ht
    gi_wp2
    exact ⟨(Ag.setCell Wb ⟨N + 1 + 1, 0, none⟩ _ (by simp; omega) (fun hk => hk.2.2.1 rfl)).trans (Ag.alloc _ _), rfl, er, HRB, (HIB.out.res.set _).alloc _, (HIB.out.md.put (a := ⟨N + 1 + 1, 0, none⟩) (by simp; omega) _).alloc _⟩
  | val tv t =>
   have hgood : ¬ MW (pre ++ [.val tv t]) := fun hb => by
    obtain ⟨y, hy, hyb⟩ := hb
    rcases List.mem_append.1 hy with hy | hy
    ·exact hI.ok ⟨y, hy, hyb⟩
    ·rw [List.mem_singleton.1 hy] at hyb; cases hyb
   have ht0 : Ao W (fun b => W0.heap.size <= b) t tv := hadm.1
   obtain ⟨vk0, tvs, hks0⟩ := hI.ks
   have hksW := hks0.turn hturn (by omega) (by omega)
   obtain ⟨A, cap, rfl, hob⟩ := Et hks0.own
   have ht1 : Ao W (fun b => N + 7 <= b /\ b < W.heap.size /\ J6 (N + 7) (.slice A tvs.length cap) b) t tv := Au (fun b hb hb2 => ⟨by have := hI.sz; omega, hb, by have := hI.sz; omega, fun e => by have := (hob b e).2.1; omega⟩) t tv ht0
   obtain ⟨tk, tnm, xk, xn, xs, KA0, kl, kc, TA, tl, tc, rfl⟩ := ht1.form
   have hlen : tvs.length <= 1000000 := by
    rcases hadm.2 with ⟨_, q', _, hq', hpq, _⟩ | ⟨hc, _⟩
    ·have := hx.len; have := Ef.len _ _ hks0.tr; rw [List.length_map] at this; omega
    ·cases hc
   clear hturn hadm ht0 hks0 hI hob
   have HG := hid hgood
   clear hgood
   unfold Mt LO
   gi_wp2
   refine ⟨Ag.refl _ _ _ _, fun Wb ht _ => ?_⟩
   have hIb := hIW.turn (by omega) (by omega) ht
   have hks := hksW.turn ht (by omega) (by omega)
   have ht2 := As (B4.of_turn ht (fun k hk hO => by have := hO.1; omega)) _ _ ht1
   have HIB := hid hIb
   have HKS := hid (hks.below ((Bq _ Wb).alloc Nr (.cells #[.nilIface] 268)))
   have HT := hid (ht2.below ((Bq _ Wb).alloc Nr (.cells #[.nilIface] 268)))
   have hbz : N + 7 <= Wb.heap.size := hIb.sz
   have hWz : W.heap.size <= Wb.heap.size := ht.size
   clear hIW hIb ht hksW hks ht1 ht2
   obtain ⟨n7, hn7⟩ : ∃ n, tvs.length = n := ⟨_, rfl⟩
   have hTd : (Wb.alloc (.cells #[.nilIface] 268)).cell? ⟨N + 1 + 1 + 1, 6, none⟩ = some (.slice A n7 cap) := by rw [<- hn7]; simp [World.cell?, HKS.out.tb]
   gi_wp2
   refine Dl (S := fun L w' => L.getD 6 true = false -> w'.cell? ⟨N + 1 + 1 + 1, 6, none⟩ = some (.slice A n7 cap)) (by kernel_rfl) (by kernel_rfl) (by rintro ⟨a, w, h⟩; exact h) (fun _ => by simpa using hTd) (fun hS => ?_)
   refine wL 0 1 hS (fun hS => ?_); try simp only [gS]
   refine wM 1 6 ?_ ?_ hS (fun hS => ?_)
   rotate_left
   ·intro L w' hL hm; (try dsimp only at hL); have hc := hL hm; go_simp; (try with_reducible rfl)
   try simp only [gS]
   refine wL 2 3 hS (fun hS => ?_); try simp only [gS]
   refine wL 4 7 hS (fun hS => ?_); try simp only [gS]
   have hmt := IP
   have HB0 := hid (show Below (Wb.alloc (.cells #[.nilIface] 268)).heap.size (Wb.alloc (.cells #[.nilIface] 268)) (Wb.alloc (.cells #[.nilIface] 268)).drew from (Bq _ _).drew)
   obtain ⟨i0, hi0, hz0, hz1, hz2⟩ := Gt
   have hi2 : (n7 : Int) < (n7 : Int) + 1 := by omega
   refine Aj (rs := [3, 5]) (by kernel_rfl) (by simp) (Ad.cons rfl (by rfl) (fun K hK => ?_) (Ad.cons rfl (by rfl) (fun K hK => ?_) Ad.nil))
   ·go_simp
    refine (I7 tk tnm xk xn xs KA0 kl kc TA tl tc _).mono ?_
    rintro e w3 ⟨rfl, hb3⟩
    have HB3 := hid (HB0.out.trans hb3)
    refine hK.out _ _ (fun _ => Ab hTd HB3.out) (fun hS => ?_)
    clear hK K hb3
    try simp only [gS]
    refine Aj (rs := [5]) (by kernel_rfl) (by simp) (Ad.cons rfl (by rfl) (fun K hK => ?_) Ad.nil)
    go_simp
    have HX := hid (HB3.out.trans (((Bq _ w3).alloc Nr (.cells #[.int .i64 0, .string ⟨#[]⟩, .int .i64 0, .int .i64 0, .string ⟨#[]⟩, .slice none 0 0, .slice none 0 0] 30)).mono HB3.out.size))
    have hZX := Wn w3 (.cells #[.int .i64 0, .string ⟨#[]⟩, .int .i64 0, .int .i64 0, .string ⟨#[]⟩, .slice none 0 0, .slice none 0 0] 30)
    refine hK.out _ _ (fun _ => Ab hTd HX.out) (fun hS => ?_)
    clear hK K HB3
    try simp only [gS]
    have HKX := hid (HKS.out.below HX.out)
    have HTX := hid (HT.out.below HX.out)
    have hBX : N + 7 <= (w3.alloc (.cells #[.int .i64 0, .string ⟨#[]⟩, .int .i64 0, .int .i64 0, .string ⟨#[]⟩, .slice none 0 0, .slice none 0 0] 30)).heap.size := by have := HX.out.size; rw [World.size_alloc] at this; omega
    refine Aj (rs := [6]) (by kernel_rfl) (by simp) (Ad.cons rfl (by rfl) (fun K hK => ?_) Ad.nil)
    refine wp_append_lies _ (.tmp 34) (.tmp 38) 28 (by rfl) (N + 7) 30 i0 (.agg #[.int .i64 0, .string ⟨#[]⟩, .int .i64 0, .int .i64 0, .string ⟨#[]⟩, .slice none 0 0, .slice none 0 0]) 7 104 (by kernel_rfl) hi0 hz0 hz1 hz2 (by rfl) (by decide) (.slice A n7 cap) n7 (tvs.flatMap Bf) (by rfl) (hn7 ▸ HKX.out.own) ⟨w3.heap.size, 0, none⟩ 1 1 FJ (by rfl) (by rfl) (World.news_of_block hZX) IK (by decide) (by unfold maxLen; omega) (by omega) hBX _ rfl ?_
    intro g gcap w6 hown6 hgrow6 hat6 hlt6
    have hkz := HKX.out.grow (by omega) (by omega) (fun k hk => hk.2.1) hBX rfl (by rw [hn7]; exact hown6) (by rw [hn7]; exact hgrow6) (by rw [hn7]; exact hat6)
    have htz : Ao w6 (J6 (N + 7) (.slice (some ⟨g, 0, none⟩) (tvs.length + 1) gcap)) t (.agg #[.int .i64 tk, .string tnm, .int .i64 xk, .int .i64 xn, .string xs, .slice KA0 kl kc, .slice TA tl tc]) := by
     refine Au (S := fun b => N + 7 <= b /\ b < W.heap.size /\ J6 (N + 7) (.slice A tvs.length cap) b) (fun b _ hb => ⟨hb.1, fun e => ?_⟩) _ _ (As ⟨hgrow6.size, fun b o x hb hc => (hgrow6.cell_far ⟨b, o, none⟩ (AS hc) (fun e => hb.2.2.2 (by rw [hn7]; exact e.symm))).trans hc⟩ _ _ HTX.out)
     simp [Value.ownBlock] at e
     subst e
     rcases hat6 with e | e
     ·exact hb.2.2.2 (by rw [hn7]; exact e)
     ·have h1 := hb.2.1; have h2 := HX.out.size; rw [World.size_alloc] at h2; omega
    have HKZ := hid hkz
    have HTZ := hid htz
    obtain ⟨⟨z0, z1, z2, z3, z4, z5, z6⟩, zf, tc6, tf6, hBg, hgl⟩ := hkz.cells hn7
    have zf0 := zf (n7 * 7)
    have zf1 := zf (n7 * 7 + 1)
    have zf2 := zf (n7 * 7 + 2)
    have zf3 := zf (n7 * 7 + 3)
    have zf4 := zf (n7 * 7 + 4)
    have zf5 := zf (n7 * 7 + 5)
    have zf6 := zf (n7 * 7 + 6)
    have hgT : g ≠ N + 1 + 1 + 1 := by omega
    refine hK.out _ _ (fun hc => absurd hc (by decide)) (fun hS => ?_)
    clear hK K hown6 hgrow6 hat6 zf hkz htz
    try simp only [gS]
    refine Du (i := 7) (v := ?_) 8 rfl (by kernel_rfl) (by kernel_rfl) (fun L w => by simp only [getD_set_ne true (show 7 ≠ 6 by decide)]) (by kernel_rfl) (by kernel_rfl) (by kernel_rfl) (fun _ _ _ h => h) (by rfl) ?_ hS (fun hS => ?_)
    rotate_left
    ·intro L w' hL hm; (try dsimp only at hL); go_simp; (try rw [if_pos hi2]); (try with_reducible rfl)
    try simp only [gS]
    refine wL 9 10 hS (fun hS => ?_); try simp only [gS]
    refine Aj (rs := [8, 10]) (by kernel_rfl) (by simp) (Ad.cons rfl (by rfl) (fun K hK => ?_) (Ad.cons rfl (by rfl) (fun K hK => ?_) Ad.nil))
    ·go_simp
     refine hK.out _ _ (fun hc => absurd hc (by decide)) (fun hS => ?_)
     clear hK K
     try simp only [gS]
     refine Aj (rs := [10]) (by kernel_rfl) (by simp) (Ad.cons rfl (by rfl) (fun K hK => ?_) Ad.nil)
     go_simp
     refine hK.out _ _ (fun hc => absurd hc (by decide)) (fun hS => ?_)
     clear hK K
     try simp only [gS]
     refine AU (by kernel_rfl) ?_ _
     have hfin := HKZ.out.put hn7 (by omega) (by omega) (fun k hk => hk.2.1) (fun hk => hk.2.2 rfl) HTZ.out _ rfl
     rw [hn7] at hfin
     have hmd : Ax R w _ := HIB.out.md.keeps (K := KA N) (by have := hfin.kp; rw [hN]; exact this)
     rw [hN]
     exact ⟨hfin.kp.less (fun k hk => ⟨hk.1, hk.2.1, hk.2.2.2⟩), ⟨HG.out, Nat.le_trans hbz hfin.kp.size, hmd, Am HIB.out.b0 hfin.kp (.inr ⟨by omega, by omega, by omega⟩), Am HIB.out.res hfin.kp (.inr ⟨by omega, by omega, by omega⟩), _, _, by rw [List.map_append]; exact hfin.base⟩⟩
    ·go_simp
     refine hK.out _ _ (fun hc => absurd hc (by decide)) (fun hS => ?_)
     clear hK K
     try simp only [gS]
     refine Aj (rs := [8]) (by kernel_rfl) (by simp) (Ad.cons rfl (by rfl) (fun K hK => ?_) Ad.nil)
     go_simp
     refine hK.out _ _ (fun hc => absurd hc (by decide)) (fun hS => ?_)
     clear hK K
     try simp only [gS]
     refine AU (by kernel_rfl) ?_ _
     rw [Hn _ g (N + 1 + 1 + 1) (n7 * 7) hgT]
     have hfin := HKZ.out.put hn7 (by omega) (by omega) (fun k hk => hk.2.1) (fun hk => hk.2.2 rfl) HTZ.out _ rfl
     rw [hn7] at hfin
     have hmd : Ax R w _ := HIB.out.md.keeps (K := KA N) (by have := hfin.kp; rw [hN]; exact this)
     rw [hN]
     exact ⟨hfin.kp.less (fun k hk => ⟨hk.1, hk.2.1, hk.2.2.2⟩), ⟨HG.out, Nat.le_trans hbz hfin.kp.size, hmd, Am HIB.out.b0 hfin.kp (.inr ⟨by omega, by omega, by omega⟩), Am HIB.out.res hfin.kp (.inr ⟨by omega, by omega, by omega⟩), _, _, by rw [List.map_append]; exact hfin.base⟩⟩
   ·go_simp
    have HX5 := hid (show Below (Wb.alloc (.cells #[.nilIface] 268)).heap.size (Wb.alloc (.cells #[.nilIface] 268)) (((Wb.alloc (.cells #[.nilIface] 268)).alloc (.cells #[.int .i64 0, .string ⟨#[]⟩, .int .i64 0, .int .i64 0, .string ⟨#[]⟩, .slice none 0 0, .slice none 0 0] 30)).drew) from (((Bq _ _).alloc Nr _).drew))
    have hZ5 : (((Wb.alloc (.cells #[.nilIface] 268)).alloc (.cells #[.int .i64 0, .string ⟨#[]⟩, .int .i64 0, .int .i64 0, .string ⟨#[]⟩, .slice none 0 0, .slice none 0 0] 30)).drew).heap[(Wb.alloc (.cells #[.nilIface] 268)).heap.size]? = some (.cells #[.int .i64 0, .string ⟨#[]⟩, .int .i64 0, .int .i64 0, .string ⟨#[]⟩, .slice none 0 0, .slice none 0 0] 30) := Wn (Wb.alloc (.cells #[.nilIface] 268)) (.cells #[.int .i64 0, .string ⟨#[]⟩, .int .i64 0, .int .i64 0, .string ⟨#[]⟩, .slice none 0 0, .slice none 0 0] 30)
    refine hK.out _ _ (fun _ => Ab hTd HX5.out) (fun hS => ?_)
    clear hK K
    try simp only [gS]
    refine Aj (rs := [3]) (by kernel_rfl) (by simp) (Ad.cons rfl (by rfl) (fun K hK => ?_) Ad.nil)
    go_simp
    refine (I7 tk tnm xk xn xs KA0 kl kc TA tl tc _).mono ?_
    rintro e w3 ⟨rfl, hb3⟩
    have HX := hid (HX5.out.trans (hb3.mono HX5.out.size))
    have hZX := Aa hZ5 hb3
    rw [World.size_alloc] at hZX
    refine hK.out _ _ (fun _ => Ab hTd HX.out) (fun hS => ?_)
    clear hK K hb3 HX5 hZ5
    try simp only [gS]
    have HKX := hid (HKS.out.below HX.out)
    have HTX := hid (HT.out.below HX.out)
    have hBX : N + 7 <= (w3).heap.size := by have := HX.out.size; rw [World.size_alloc] at this; omega
    refine Aj (rs := [6]) (by kernel_rfl) (by simp) (Ad.cons rfl (by rfl) (fun K hK => ?_) Ad.nil)
    refine wp_append_lies _ (.tmp 34) (.tmp 38) 28 (by rfl) (N + 7) 30 i0 (.agg #[.int .i64 0, .string ⟨#[]⟩, .int .i64 0, .int .i64 0, .string ⟨#[]⟩, .slice none 0 0, .slice none 0 0]) 7 104 (by kernel_rfl) hi0 hz0 hz1 hz2 (by rfl) (by decide) (.slice A n7 cap) n7 (tvs.flatMap Bf) (by rfl) (hn7 ▸ HKX.out.own) ⟨Wb.heap.size + 1, 0, none⟩ 1 1 FJ (by rfl) (by rfl) (World.news_of_block hZX) IK (by decide) (by unfold maxLen; omega) (by omega) hBX _ rfl ?_
    intro g gcap w6 hown6 hgrow6 hat6 hlt6
    have hkz := HKX.out.grow (by omega) (by omega) (fun k hk => hk.2.1) hBX rfl (by rw [hn7]; exact hown6) (by rw [hn7]; exact hgrow6) (by rw [hn7]; exact hat6)
    have htz : Ao w6 (J6 (N + 7) (.slice (some ⟨g, 0, none⟩) (tvs.length + 1) gcap)) t (.agg #[.int .i64 tk, .string tnm, .int .i64 xk, .int .i64 xn, .string xs, .slice KA0 kl kc, .slice TA tl tc]) := by
     refine Au (S := fun b => N + 7 <= b /\ b < W.heap.size /\ J6 (N + 7) (.slice A tvs.length cap) b) (fun b _ hb => ⟨hb.1, fun e => ?_⟩) _ _ (As ⟨hgrow6.size, fun b o x hb hc => (hgrow6.cell_far ⟨b, o, none⟩ (AS hc) (fun e => hb.2.2.2 (by rw [hn7]; exact e.symm))).trans hc⟩ _ _ HTX.out)
     simp [Value.ownBlock] at e
     subst e
     rcases hat6 with e | e
     ·exact hb.2.2.2 (by rw [hn7]; exact e)
     ·have h1 := hb.2.1; have h2 := HX.out.size; rw [World.size_alloc] at h2; omega
    have HKZ := hid hkz
    have HTZ := hid htz
    obtain ⟨⟨z0, z1, z2, z3, z4, z5, z6⟩, zf, tc6, tf6, hBg, hgl⟩ := hkz.cells hn7
    have zf0 := zf (n7 * 7)
    have zf1 := zf (n7 * 7 + 1)
    have zf2 := zf (n7 * 7 + 2)
    have zf3 := zf (n7 * 7 + 3)
    have zf4 := zf (n7 * 7 + 4)
    have zf5 := zf (n7 * 7 + 5)
    have zf6 := zf (n7 * 7 + 6)
    have hgT : g ≠ N + 1 + 1 + 1 := by omega
    refine hK.out _ _ (fun hc => absurd hc (by decide)) (fun hS => ?_)
    clear hK K hown6 hgrow6 hat6 zf hkz htz
    try simp only [gS]
    refine Du (i := 7) (v := ?_) 8 rfl (by kernel_rfl) (by kernel_rfl) (fun L w => by simp only [getD_set_ne true (show 7 ≠ 6 by decide)]) (by kernel_rfl) (by kernel_rfl) (by kernel_rfl) (fun _ _ _ h => h) (by rfl) ?_ hS (fun hS => ?_)
    rotate_left
    ·intro L w' hL hm; (try dsimp only at hL); go_simp; (try rw [if_pos hi2]); (try with_reducible rfl)
    try simp only [gS]
    refine wL 9 10 hS (fun hS => ?_); try simp only [gS]
    refine Aj (rs := [8, 10]) (by kernel_rfl) (by simp) (Ad.cons rfl (by rfl) (fun K hK => ?_) (Ad.cons rfl (by rfl) (fun K hK => ?_) Ad.nil))
    ·go_simp
     refine hK.out _ _ (fun hc => absurd hc (by decide)) (fun hS => ?_)
     clear hK K
     try simp only [gS]
     refine Aj (rs := [10]) (by kernel_rfl) (by simp) (Ad.cons rfl (by rfl) (fun K hK => ?_) Ad.nil)
     go_simp
     refine hK.out _ _ (fun hc => absurd hc (by decide)) (fun hS => ?_)
     clear hK K
     try simp only [gS]
     refine AU (by kernel_rfl) ?_ _
     have hfin := HKZ.out.put hn7 (by omega) (by omega) (fun k hk => hk.2.1) (fun hk => hk.2.2 rfl) HTZ.out _ rfl
     rw [hn7] at hfin
     have hmd : Ax R w _ := HIB.out.md.keeps (K := KA N) (by have := hfin.kp; rw [hN]; exact this)
     rw [hN]
     exact ⟨hfin.kp.less (fun k hk => ⟨hk.1, hk.2.1, hk.2.2.2⟩), ⟨HG.out, Nat.le_trans hbz hfin.kp.size, hmd, Am HIB.out.b0 hfin.kp (.inr ⟨by omega, by omega, by omega⟩), Am HIB.out.res hfin.kp (.inr ⟨by omega, by omega, by omega⟩), _, _, by rw [List.map_append]; exact hfin.base⟩⟩
    ·go_simp
     refine hK.out _ _ (fun hc => absurd hc (by decide)) (fun hS => ?_)
     clear hK K
     try simp only [gS]
     refine Aj (rs := [8]) (by kernel_rfl) (by simp) (Ad.cons rfl (by rfl) (fun K hK => ?_) Ad.nil)
     go_simp
     refine hK.out _ _ (fun hc => absurd hc (by decide)) (fun hS => ?_)
     clear hK K
     try simp only [gS]
     refine AU (by kernel_rfl) ?_ _
     rw [Hn _ g (N + 1 + 1 + 1) (n7 * 7) hgT]
     have hfin := HKZ.out.put hn7 (by omega) (by omega) (fun k hk => hk.2.1) (fun hk => hk.2.2 rfl) HTZ.out _ rfl
     rw [hn7] at hfin
     have hmd : Ax R w _ := HIB.out.md.keeps (K := KA N) (by have := hfin.kp; rw [hN]; exact this)
     rw [hN]
     exact ⟨hfin.kp.less (fun k hk => ⟨hk.1, hk.2.1, hk.2.2.2⟩), ⟨HG.out, Nat.le_trans hbz hfin.kp.size, hmd, Am HIB.out.b0 hfin.kp (.inr ⟨by omega, by omega, by omega⟩), Am HIB.out.res hfin.kp (.inr ⟨by omega, by omega, by omega⟩), _, _, by rw [List.map_append]; exact hfin.base⟩⟩
 case done =>
  rintro D xs W hD hI ⟨q, hE, hq⟩ hK
  have hsz := HL.out.sz
  obtain ⟨vk, tvs, hk⟩ := hI.ks
  have htr := hk.tree (ks := []) (Cy.nil W) (Gx.nil _)
  obtain ⟨A, cap, rfl, _⟩ := Et hk.own
  have hrd := HR.out.mod hq hI.md
  have hEn := JR R v _ ts q 9 (BA (xs.map N6)) W hrd.tk hx.len (by have := hE.1; have := hx.len; omega) (N + 7) hI.sz (by omega) hq htr
  rw [hE.2] at hEn
  have b0 := hI.b0.cell
  have b2 := hI.res.cell
  have f2 := hI.res.frozen
  have hC : W.cell? ⟨N + 1 + 1 + 1, 0, none⟩ = some (.int .i64 1) /\ W.cell? ⟨N + 1 + 1 + 1, 1, none⟩ = some (.string ⟨#[]⟩) /\ W.cell? ⟨N + 1 + 1 + 1, 2, none⟩ = some (.int .i64 0) /\ W.cell? ⟨N + 1 + 1 + 1, 3, none⟩ = some (.int .i64 0) /\ W.cell? ⟨N + 1 + 1 + 1, 4, none⟩ = some (.string ⟨#[]⟩) /\ W.cell? ⟨N + 1 + 1 + 1, 5, none⟩ = some (.slice none 0 0) /\ W.cell? ⟨N + 1 + 1 + 1, 6, none⟩ = some (.slice A tvs.length cap) := by
   refine ⟨?_, ?_, ?_, ?_, ?_, ?_, ?_⟩ <;> simp [World.cell?, hk.tb]
  obtain ⟨c0, c1, c2, c3, c4, c5, c6⟩ := hC
  have HI := hid hI
  clear hk htr hE hq hrd hI hV h
  go_wp2_with fail
  refine hEn.mono ?_
  intro e W' hP
  obtain ⟨⟨T, u, rfl⟩, hmd⟩ := hP.form
  obtain ⟨hK2, hfin⟩ := hP.shut HI.out.md hN (by omega) (by omega) hK rfl
  have b2' := Ah HI.out.res hmd (by omega)
  have d0 := (Ar (b2'.set (.iface T u)) hK2 (.deferred none)).cell
  have b2c := b2'.cell
  have b2f := b2'.frozen
  have HF := hid hfin
  clear hEn hP hmd hfin b0 b2 f2 c0 c1 c2 c3 c4 c5 c6
  go_wp2
  refine ⟨by simp, .inl ⟨_, _, rfl, run_takeDeferred hK2, ?_⟩⟩
  refine ⟨.iface T u, by simp [results, Tryz.f186, go_sem, d0], ?_⟩
  rw [hN]
  exact HF.out
 case stop =>
  rintro D co pre W hD ⟨rfl, e, he, hres, hmd⟩ hK
  refine wpIn_wide.2 ?_
  have hsz := HL.out.sz
  go_wp2
  refine ⟨by simp, .inl ⟨_, _, rfl, run_takeDeferred hK, ?_⟩⟩
  have d0 := (Ar hres hK (.deferred none)).cell
  refine ⟨CZ e, by simp [results, Tryz.f186, go_sem, d0], ?_⟩
  rw [he.out]
  exact ⟨rfl, Af.trans hmd (Af.putObj _ hK (by omega) rfl)⟩
end
end Go.Proofs.YtaogfdffgdglkaaGreatDoor
