/- What is proved: a part of the walk of the program and of its plain laws; no condition beside those that each theorem names. -/
import Derived.Test.YtaogfdffgdglkaaGreatDoorYxf
import Derived.Test.YtaogfdffgdglkaaGreatDoorYa
import Derived.Stop.RegionWithIn
namespace Go.Proofs.YtaogfdffgdglkaaGreatDoor
open Go Go.RowKit Go.Lib
set_option linter.unusedSimpArgs false
set_option linter.unusedVariables false
section
open Go Go.RowKit
def Rt {α : Type} (bad : List α -> Prop) (P : Program) (gf : Nat) (lb : Array Value) (encs : α -> Array Value) (C K : Nat -> Prop) (n₀ : Nat) (Adm : List α -> α -> World -> World -> Prop) (Sh : List α -> World -> Prop) (Fin : List α -> World -> Prop) (St : World -> Prop) : Prop :=
 ∀ (l : Nat) (J Jx : List α -> World -> Prop) (W : World), St W -> (∀ s X Y, J s X -> Af C W.heap.size X Y -> J s Y) -> (∀ s X Y, Jx s X -> Af C W.heap.size X Y -> Jx s Y) -> (∀ s X, bad s -> ¬ J s X) -> (∀ s X, J s X -> Sh s X) →
  (∀ pre x W0 W1, J pre W0 -> Af C W.heap.size W0 W1 -> Adm pre x W0 W1 -> YieldAt Fence.wide 0 P l (encs x) W1 fun e W' =>
   (e = .returned (.bool true) /\ J (pre ++ [x]) W' /\ Ag Obj.isWalk K n₀ W1 W') \/ (e = .returned (.bool false) /\ Jx (pre ++ [x]) W' /\ Ag Obj.isWalk K n₀ W1 W')) →
  J [] W →
  CallsIn Fence.wide 0 P gf (#[.func (.yield l) #[] #[]] ++ lb) W fun e W' => (∃ v, e = .returned v) /\ ((∃ xs, J xs W' /\ Fin xs W') \/ ∃ pre, Jx pre W')
variable {P : Program}
theorem EW {α : Type} {bad : List α -> Prop} {g : Operand} {ps : Array Tmp} {assign body : Code} {Q : Exit -> Act -> World -> Prop} {a : Act} {w : World}
  {gf : Nat} {lb : Array Value} (hg : a.eval g = .func (.func gf) #[] lb) (eg : ∀ args w, (callFunc gf args).run P w = .ok (.enter gf args) w)
  {encs : α -> Array Value} {C K : Nat -> Prop} {n₀ : Nat} {Adm : List α -> α -> World -> World -> Prop} {Sh : List α -> World -> Prop} {Fin : List α -> World -> Prop} {St : World -> Prop} (hseq : Rt bad P gf lb encs C K n₀ Adm Sh Fin St)
  (hst : ∀ Y, Below w.heap.size w Y -> w.heap.size + 2 <= Y.heap.size -> St Y) (hC : ∀ k, C k -> k < w.heap.size) (hKD : ¬ K w.heap.size) (hKl : ¬ K (w.heap.size + 1)) (hn : n₀ <= w.heap.size) (hps : ∀ x, (encs x).size = ps.size)
  (I : List α -> World -> Prop) (Ix : Code -> List α -> World -> Prop) (hF : ∀ s X Y, Fin s X -> Af (fun _ => False) w.heap.size X Y -> Fin s Y) (hI : ∀ s X Y, I s X -> Af C w.heap.size X Y -> I s Y) (hIx : ∀ c s X Y, Ix c s X -> Af C w.heap.size X Y -> Ix c s Y) (hbad : ∀ s X, bad s -> ¬ I s X) (hSh : ∀ s X, I s X -> Sh s X) (h0 : I [] w)
  (hround : ∀ (l : Nat) (pre : List α) (x : α) (W0 W : World), w.heap.size <= l -> I pre W0 -> Af C w.heap.size W0 W -> Adm pre x W0 W →
   assign.wpIn (Fence.wide.inRound l) 0 P (Exit.then (fun a' W' => Ag Av K n₀ W W' /\ ∀ Wb, Af C w.heap.size W' Wb -> (∃ r, Wb.heap[l]? = some (.loop r)) -> body.wpIn (Fence.wide.inRound l) 0 P (Pe K n₀ I Ix (pre ++ [x]) Wb) a' Wb) (fun _ _ _ => False))
    { tmps := (ps.zip (encs x)).foldl (fun t (p, v) => t.setIfInBounds p v) a.tmps, defers := [] } W)
  (hdone : ∀ (D : Nat) (xs : List α) (W : World), w.heap.size <= D -> I xs W -> Fin xs W -> W.heap[D]? = some (.deferred (some [])) -> Q .normal { a with defers := { target := .collected D, args := #[] } :: a.defers } W)
  (hstop : ∀ (D : Nat) (c : Code) (pre : List α) (W : World), w.heap.size <= D -> Ix c pre W -> W.heap[D]? = some (.deferred (some [])) -> c.wpIn Fence.wide 0 P Q { a with defers := { target := .collected D, args := #[] } :: a.defers } W) :
  (Code.rangeFunc g ps assign body).wpIn Fence.wide 0 P Q a w := by
 refine wpIn_rangeFunc (fun fn hfn => ?_)
 obtain ⟨rec, hrec⟩ : ∃ rec : LoopState -> Option Code -> Loop, rec = fun st pe => { state := st, pending := pe, fn, tmps := a.tmps, params := ps, assign, body, defers := w.heap.size } := ⟨_, rfl⟩
 obtain ⟨W1, hW1⟩ : ∃ W1, (w.alloc (.deferred (some []))).alloc (.loop (rec .ready none)) = W1 := ⟨_, rfl⟩
 have hz1 : W1.heap.size = w.heap.size + 1 + 1 := by rw [<- hW1]; simp
 have hL1 : W1.heap[w.heap.size + 1]? = some (.loop (rec .ready none)) := by
  rw [<- hW1]; have := Wn (w.alloc (.deferred (some []))) (.loop (rec .ready none)); rwa [World.size_alloc] at this
 have hD1 : W1.heap[w.heap.size]? = some (.deferred (some [])) := by
  rw [<- hW1]; exact (Below.heap_alloc _ _ _ (by simp)).trans (Wn w _)
 have hB1 : Below w.heap.size w W1 := by
  rw [<- hW1]; exact ((Bq _ w).alloc Nr _).alloc (by simp) _
 have hI1 : I [] W1 := by rw [<- hW1]; exact hI _ _ _ (hI _ _ _ h0 (Af.alloc _ _)) (Af.alloc _ _)
 have hCl : ¬ C (w.heap.size + 1) := fun h => by have := hC _ h; omega
 have hCD : ¬ C w.heap.size := fun h => by have := hC _ h; omega
 refine ⟨w.heap.size + 1, [{ target := .collected w.heap.size, args := #[] }], W1, { target := .fn (.func gf) lb, args := #[.func (.yield (w.heap.size + 1)) #[] #[]] }, W1, gf,
  #[.func (.yield (w.heap.size + 1)) #[] #[]] ++ lb, W1, ?_, ?_, ?_, ?_, fun h => by simp [Fence.wide] at h, ?_⟩
 ·rw [<- hW1, hrec]; exact run_enterLoop_outer _ _ _ _ _
 ·simp only [resolve, hg]
  simp [go_sem]
 ·intro f' _; trivial
 ·simp [invoke, go_sem, eg]
 refine (hseq (w.heap.size + 1)
  (fun pre W => I pre W /\ W.heap[w.heap.size + 1]? = some (.loop (rec .ready none)) /\ W.heap[w.heap.size]? = some (.deferred (some [])))
  (fun pre W => ∃ c, Ix c pre W /\ W.heap[w.heap.size + 1]? = some (.loop (rec .done (some c))) /\ W.heap[w.heap.size]? = some (.deferred (some [])))
  W1 (hst _ hB1 (by omega))
  (fun s X Y hs ht => ⟨hI _ _ _ hs.1 (ht.mono (by omega)), ht.old hs.2.1 hCl (by omega), ht.old hs.2.2 hCD (by omega)⟩)
  (fun s X Y hs ht => by
   obtain ⟨c, hc, hl, hk⟩ := hs
   exact ⟨c, hIx _ _ _ _ hc (ht.mono (by omega)), ht.old hl hCl (by omega), ht.old hk hCD (by omega)⟩)
  (fun s X hb hj => hbad s X hb hj.1) (fun s X hj => hSh s X hj.1) ?_ ⟨hI1, hL1, hD1⟩).mono ?_
 ·rintro pre x W0 W ⟨hi, hl, hk⟩ htn hpre
  replace hl := htn.old hl hCl (by omega)
  replace hk := htn.old hk hCD (by omega)
  replace htn := htn.mono (B' := w.heap.size) (by omega)
  have hy := run_yield (P := P) (args := encs x) hl (by rw [hrec]; exact hps x)
  rw [hrec] at hy
  refine ⟨fn, _, assign, body, hy, roundIn_of_wpIn hfn (wpIn_mono (hround _ pre x W0 W (by omega) hi htn hpre) ?_)⟩
  clear hy
  intro e0 a' Wa he0
  cases e0 with
  | normal => ?_
  | _ => exact he0.elim
  obtain ⟨hka, hbd⟩ := he0
  have hla : Wa.heap[w.heap.size + 1]? = some (.loop (rec .ready none)) := hka.heap hl (.inr (.inr rfl))
  have hDa : Wa.heap[w.heap.size]? = some (.deferred (some [])) := hka.heap hk (.inr (.inr rfl))
  have hlt : w.heap.size + 1 < Wa.heap.size := (Gl hla)
  refine ⟨_, run_beginRound hla (by rw [hrec]), ?_⟩
  obtain ⟨Wb, hWb⟩ : ∃ Wb, Wa.putObj (w.heap.size + 1) (.loop { rec .ready none with state := .busy }) = Wb := ⟨_, rfl⟩
  have hl2 : Wb.heap[w.heap.size + 1]? = some (.loop { rec .ready none with state := .busy }) := by rw [<- hWb]; exact World.putObj_heap_same hlt
  have hD2 : Wb.heap[w.heap.size]? = some (.deferred (some [])) := by rw [<- hWb]; exact (World.putObj_heap_other (by omega)).trans hDa
  have hk2 : Ag Obj.isWalk K n₀ Wa Wb := by rw [<- hWb]; exact Ag.putObj _ hla (by omega) hKl rfl
  have hta : Af C w.heap.size Wa Wb := by rw [<- hWb]; exact Af.putObj _ hla (by omega) rfl
  rw [hWb]
  refine wpIn_mono (hbd Wb hta ⟨_, hl2⟩) ?_
  have fin : ∀ (jump : Option Code) (W3 : World), Ag Av K n₀ Wb W3 →
    (Instr.endRound (w.heap.size + 1) jump).run P W3 = .ok (.bool jump.isNone) (W3.putObj (w.heap.size + 1) (.loop (rec (if jump.isNone then .ready else .done) jump))) ∧
    (W3.putObj (w.heap.size + 1) (.loop (rec (if jump.isNone then .ready else .done) jump))).heap[w.heap.size + 1]? = some (.loop (rec (if jump.isNone then .ready else .done) jump)) ∧
    (W3.putObj (w.heap.size + 1) (.loop (rec (if jump.isNone then .ready else .done) jump))).heap[w.heap.size]? = some (.deferred (some [])) ∧
    Af C w.heap.size W3 (W3.putObj (w.heap.size + 1) (.loop (rec (if jump.isNone then .ready else .done) jump))) ∧
    Ag Obj.isWalk K n₀ W3 (W3.putObj (w.heap.size + 1) (.loop (rec (if jump.isNone then .ready else .done) jump))) := fun jump W3 hk3 => by
   have hl3 : W3.heap[w.heap.size + 1]? = some (.loop { rec .ready none with state := .busy }) := hk3.heap hl2 (.inr (.inr rfl))
   have hD3 : W3.heap[w.heap.size]? = some (.deferred (some [])) := hk3.heap hD2 (.inr (.inr rfl))
   have hr := run_endRound (P := P) jump hl3
   rw [hrec] at hr |-
   exact ⟨hr, World.putObj_heap_same (Gl hl3), (World.putObj_heap_other (by omega)).trans hD3, Af.putObj _ hl3 (by omega) rfl, Ag.putObj _ hl3 (by omega) hKl rfl⟩
  rintro e a3 W3 hp
  cases e with
  | normal =>
   obtain ⟨hr, hl4, hD4, ht4, hk4⟩ := fin none W3 hp.1
   exact ⟨_, _, hr, .inl ⟨rfl, ⟨hI _ _ _ hp.2 ht4, hl4, hD4⟩, ((hka.walks.trans hk2).trans hp.1.walks).trans hk4⟩⟩
  | ret =>
   obtain ⟨hr, hl4, hD4, ht4, hk4⟩ := fin (some .ret) W3 hp.1
   exact ⟨_, _, hr, .inr ⟨rfl, ⟨.ret, hIx _ _ _ _ hp.2 ht4, hl4, hD4⟩, ((hka.walks.trans hk2).trans hp.1.walks).trans hk4⟩⟩
  | exit id =>
   obtain ⟨hr, hl4, hD4, ht4, hk4⟩ := fin (some (.exit id)) W3 hp.1
   exact ⟨_, _, hr, .inr ⟨rfl, ⟨.exit id, hIx _ _ _ _ hp.2 ht4, hl4, hD4⟩, ((hka.walks.trans hk2).trans hp.1.walks).trans hk4⟩⟩
  | goto t =>
   obtain ⟨hr, hl4, hD4, ht4, hk4⟩ := fin (some (.goto t)) W3 hp.1
   exact ⟨_, _, hr, .inr ⟨rfl, ⟨.goto t, hIx _ _ _ _ hp.2 ht4, hl4, hD4⟩, ((hka.walks.trans hk2).trans hp.1.walks).trans hk4⟩⟩
  | panic ch => exact hp.elim
  | outgrown => exact hp.elim
 ·rintro e W2 ⟨⟨v, rfl⟩, (⟨xs, ⟨hi, hl, hk⟩, hfin⟩ | ⟨pre, c, hi, hl, hk⟩)⟩
  ·refine ⟨none, _, by have := run_endLoop (P := P) hl (by rw [hrec]; simp); rw [hrec] at this; exact this, hdone _ xs _ Nr (hI _ _ _ hi (Af.putObj _ hl (by omega) rfl)) (hF _ _ _ hfin (Af.putObj _ hl (by omega) rfl)) ((World.putObj_heap_other (by omega)).trans hk)⟩
  ·refine ⟨some c, _, by have := run_endLoop (P := P) hl (by rw [hrec]; simp); rw [hrec] at this; exact this, hstop _ c pre _ Nr (hIx _ _ _ _ hi (Af.putObj _ hl (by omega) rfl)) ((World.putObj_heap_other (by omega)).trans hk)⟩
attribute [local go_sem] Oper.semAt_some CA B0
def NU : Bool -> Value
 | true => .iface 149 (.agg #[])
 | false => .iface 150 (.agg #[])
def Mw : Bool -> Bg
 | true => .dash
 | false => .key
theorem MN (R : Nat) (col : Int) (dk : Bool) (w : World) :
  Calls Tryz.prog 106 #[.pointer (some ⟨R, 0, none⟩), .int .i64 col, NU dk] w fun e w' =>
   e = .returned (.func (.func 134) #[] #[.pointer (some ⟨w.heap.size, 0, none⟩), .pointer (some ⟨w.heap.size + 1, 0, none⟩), .pointer (some ⟨w.heap.size + 1 + 1, 0, none⟩)]) ∧
   w' = ((w.alloc (.cells #[.pointer (some ⟨R, 0, none⟩)] 55)).alloc (.cells #[.int .i64 col] 3)).alloc (.cells #[NU dk] 147) := by
 cases dk <;> unfold NU
 all_goals
  go_enter Tryz.func106, Tryz.ntmps106
  go_wp2
  go_ret
  exact ⟨by simp, rfl⟩
abbrev EL := En × (Option Addr × Nat)
def Rq (y : EL) : Array Value := #[.agg #[.int .i64 y.1.no, .int .i64 y.1.col, .slice y.2.1 y.1.l.length y.2.2]]
def Uz (R b : Nat) (col : Int) (dk : Bool) (cur : List EL -> List En) (pre : List EL) (y : EL) (_ W : World) : Prop :=
 ∃ r, cur pre = y.1 :: r /\ y.1.col = col /\ Bp y.1.l = Mw dk /\ DF W R b y.1.l (.slice y.2.1 y.1.l.length y.2.2)
def Tf (col : Int) (dk : Bool) (cur : List EL -> List En) (pre : List EL) (_ : World) : Prop := ∀ x r, cur pre = x :: r -> ¬ (x.col = col /\ Bp x.l = Mw dk)
def QV (w : World) (R : Nat) : Nat := match w.cell? ⟨R, 0, none⟩ with | some (.slice _ n _) => n | _ => 0
theorem OX {w : World} {R b : Nat} {es : List En} (h : CE w R b es) : QV w R = es.length := by
 obtain ⟨A, c, _, h2, _⟩ := h.rf
 unfold QV; rw [(Oj h2).1]
structure RJ (R : Nat) (Br Bc Ba : Nat) (col : Int) (dk : Bool) (W : World) : Prop where
 br : Boxed W Br 55 (.pointer (some ⟨R, 0, none⟩))
 bc : Boxed W Bc 3 (.int .i64 col)
 ba : Boxed W Ba 147 (NU dk)
theorem RJ.below {R Br Bc Ba : Nat} {col : Int} {dk : Bool} {X Y : World} (h : RJ R Br Bc Ba col dk X) (hb : Below X.heap.size X Y) : RJ R Br Bc Ba col dk Y := ⟨Ac h.br hb, Ac h.bc hb, Ac h.ba hb⟩
theorem RJ.keeps {R Br Bc Ba : Nat} {col : Int} {dk : Bool} {X Y : World} {K : Nat -> Prop} {n : Nat} (h : RJ R Br Bc Ba col dk X) (hk : Ag Obj.isWalk K n X Y) (h1 : K Br) (h2 : K Bc) (h3 : K Ba) : RJ R Br Bc Ba col dk Y :=
 ⟨Am h.br hk (.inr h1), Am h.bc hk (.inr h2), Am h.ba hk (.inr h3)⟩
end
section
set_option maxRecDepth 100000
set_option maxHeartbeats 8000000
attribute [local go_sem] Oper.semAt_some CA B0
theorem Tw (w : World) : (Go.method 489 149 (.agg #[]) "sigillary/block.isSame").run Tryz.prog w = .ok (267, .agg #[]) w := by kernel_rfl
theorem UT (w : World) : (Go.method 489 150 (.agg #[]) "sigillary/block.isSame").run Tryz.prog w = .ok (268, .agg #[]) w := by kernel_rfl
theorem SJ {e : Ending} {A B : Prop} (h : (e = .returned (.bool true) /\ A) \/ (e = .returned (.bool false) /\ B)) : ∃ bb, e = .returned (.bool bb) /\ ((bb = true /\ A) \/ (bb = false /\ B)) := by
 rcases h with ⟨rfl, h⟩ | ⟨rfl, h⟩
 ·exact ⟨true, rfl, .inl ⟨rfl, h⟩⟩
 ·exact ⟨false, rfl, .inr ⟨rfl, h⟩⟩
theorem T2 (w : World) : (nilAhead 489 149 (.agg #[]) "sigillary/block.isSame").run Tryz.prog w = .ok (some false) w := by kernel_rfl
theorem UM (w : World) : (nilAhead 489 150 (.agg #[]) "sigillary/block.isSame").run Tryz.prog w = .ok (some false) w := by kernel_rfl
theorem I3 (R b Br Bc Ba : Nat) (K : Nat -> Prop) (col : Int) (dk : Bool) (T : TypeId) (fS : FuncId) (hbv : NU dk = .iface T (.agg #[])) (me : ∀ w, (Go.method 489 T (.agg #[]) "sigillary/block.isSame").run Tryz.prog w = .ok (fS, .agg #[]) w)
  (na : ∀ w, (nilAhead 489 T (.agg #[]) "sigillary/block.isSame").run Tryz.prog w = .ok (some false) w) (heg : ∀ (args : Array Value) (w : World), (callFunc fS args).run Tryz.prog w = .ok (.enter fS args) w)
  (hS : ∀ (g : Bg) (w : World), Calls Tryz.prog fS #[.agg #[], L5 g] w fun e w' => e = .returned (.bool (decide (g = Mw dk))) /\ Below w.heap.size w w') (cur : List EL -> List En) (k1 : K Br) (k2 : K Bc) (k3 : K Ba)
  (hcur : ∀ pre y r, cur pre = y.1 :: r -> (cur (pre ++ [y])).length <= r.length) :
  Rt (fun _ => False) Tryz.prog 134 #[.pointer (some ⟨Br, 0, none⟩), .pointer (some ⟨Bc, 0, none⟩), .pointer (some ⟨Ba, 0, none⟩)] Rq (fun _ => False) K 0 (Uz R b col dk cur) (fun pre W => CE W R b (cur pre)) (Tf col dk cur)
   (fun W => RJ R Br Bc Ba col dk W) := by
 intro l J Jx W hr hJ hJx hJb hJS hY hJ0
 refine callsIn_of_wp Tryz.func134 rfl trivial ?_ rfl
 simp only [Tryz.ntmps134, List.size_toArray, List.length_cons, List.length_nil, Nat.reduceAdd, Nat.reduceSub, Array.replicate_succ, Array.replicate_zero, List.push_toArray, List.append_toArray, List.nil_append, List.cons_append]
 gi_wp2
 refine De ?_
 gi_wp2
 refine Db ?_
 gi_wp2
 gi_loopw [5, 6, 7] (fun _ _ _ wr => ∃ (pre : List EL), RJ R Br Bc Ba col dk wr /\ W.heap.size <= wr.heap.size /\ J pre wr) (fun _ _ _ wr => QV wr R)
 case atStart => exact ⟨[], hr, Nat.le_refl _, hJ0⟩
 case round =>
  obtain ⟨pre, hj1, hz1, hJ1⟩ := hrel
  clear hr hJ0
  have hrd := hJS _ _ hJ1
  have HM := hid (OX hrd)
  have b1 := hj1.br.cell
  obtain ⟨es, hes⟩ : ∃ z, cur pre = z := ⟨_, rfl⟩
  rw [hes] at hrd HM
  cases es with
  | nil =>
   have hN := Ej R b wr hrd
   have HF := hid (show Tf col dk cur pre wr from fun x r h => by rw [hes] at h; cases h)
   clear hY hJb hes hrd
   gi_wp2_with fail
   refine (callsIn_wide.2 hN).mono ?_
   rintro e w2 ⟨rfl, hb2⟩
   have hbA := (Bq _ w2).alloc Nr (.cells #[.int .i64 0, .int .i64 0, .slice none 0 0] 107)
   have hbW := hb2.trans (hbA.mono hb2.size)
   have HJ := hid (hJ _ _ _ hJ1 (Af.of_below hbW))
   have hT0 : wr.heap.size <= (w2.alloc (.cells #[.int .i64 0, .int .i64 0, .slice none 0 0] 107)).drew.heap.size := hbW.size
   clear hN hJ1 hb2 hbA b1
   gi_wp2
   refine wpIn_wide.2 ?_
   refine wp_region_noPanic ?_
   refine wR 24 (S := (fun w' => wr.heap.size <= w'.heap.size)) rfl ?_ (fun hHeld => ?_)
   ·(try dsimp only); exact hT0
   simp only [gR]
   iterate 3 (refine wN hHeld ?_; try simp only [gS])
   refine wU 3 rfl (by rfl) hHeld ?_
   try simp only [gS]
   refine wU 4 rfl (by rfl) hHeld ?_
   try simp only [gS]
   refine wU 5 rfl (by rfl) hHeld ?_
   try simp only [gS]
   refine wU 6 rfl (by rfl) hHeld ?_
   try simp only [gS]
   iterate 2 (refine wN hHeld ?_; try simp only [gS])
   refine wU 9 rfl (by rfl) hHeld ?_
   try simp only [gS]
   refine wU 10 rfl (by rfl) hHeld ?_
   try simp only [gS]
   refine wU 11 rfl (by rfl) hHeld ?_
   try simp only [gS]
   refine wU 12 rfl (by rfl) hHeld ?_
   try simp only [gS]
   refine wU 13 rfl (by rfl) hHeld ?_
   try simp only [gS]
   refine wU 14 rfl (by rfl) hHeld ?_
   try simp only [gS]
   refine wU 15 rfl (by rfl) hHeld ?_
   try simp only [gS]
   refine wU 16 rfl (by rfl) hHeld ?_
   try simp only [gS]
   iterate 2 (refine wN hHeld ?_; try simp only [gS])
   refine wU 19 rfl (by rfl) hHeld ?_
   try simp only [gS]
   refine wU 20 rfl (by rfl) hHeld ?_
   try simp only [gS]
   refine wU 21 rfl (by rfl) hHeld ?_
   try simp only [gS]
   refine wU 22 rfl (by rfl) hHeld ?_
   try simp only [gS]
   refine wN hHeld ?_; try simp only [gS]
   refine wpAnyH_done (by kernel_rfl) ?_ _
   refine NoPanic.normal ?_
   have HJ2 := hid (hJ _ _ _ HJ.out (Af.of_below (Bq _ (w2.alloc (.cells #[.int .i64 0, .int .i64 0, .slice none 0 0] 107))).drew))
   gi_wp2
   try simp only [Exit.noGoto_normal]
   go_end0
   exact ⟨⟨_, rfl⟩, .inl ⟨pre, HJ2.out, HF.out⟩⟩
  | cons x r =>
   obtain ⟨o, c, A, ca, hd⟩ := hrd.head
   have hN := Da R b x o _ c A ca wr hd (by omega)
   have hen := hd.en
   have hBG := fun W0 (hb : Below wr.heap.size wr W0) => Ge x.no x.col A ca x.l W0 (by obtain ⟨_, _, _, _, ht, _⟩ := hen; exact ht.below hb)
   obtain ⟨g, hg⟩ : ∃ z, Bp x.l = z := ⟨_, rfl⟩
   rw [hg] at hBG
   have HES := hid hes
   have HEN := hid (Ai hen hg)
   have hF2 := hid (show ¬ (x.col = col /\ g = Mw dk) -> Tf col dk cur pre wr from fun hn y r' h => by
    rw [HES.out] at h
    injection h with h1 h2
    subst h1
    rw [hg]; exact hn)
   have HRD := hid hrd
   clear hd hes hen hg hrd
   obtain ⟨no, xc, l⟩ := x
   dsimp only at hN hBG hF2 HEN
   obtain ⟨L, hL⟩ : ∃ z, l.length = z := ⟨_, rfl⟩
   rw [hL] at hN hBG
   have HL := hid hL
   clear hL
   gi_wp2_with fail
   refine (callsIn_wide.2 hN).mono ?_
   rintro e w2 ⟨rfl, hb2⟩
   have hbA := (Bq _ w2).alloc Nr (.cells #[.int .i64 no, .int .i64 xc, .slice A L ca] 107)
   have hbW := hb2.trans (hbA.mono hb2.size)
   have hX := Wn w2 (.cells #[.int .i64 no, .int .i64 xc, .slice A L ca] 107)
   obtain ⟨w3, hw3⟩ : ∃ z, w2.alloc (.cells #[.int .i64 no, .int .i64 xc, .slice A L ca] 107) = z := ⟨_, rfl⟩
   rw [hw3] at hbW hX hbA
   have hj3 := hj1.below hbW.drew
   have HSS := hid (fun (X : World) (hT : Below w3.heap.size w3 X) => by
    obtain ⟨z0, z1, z2, _⟩ := Az (Aa hX hT)
    exact Ai z0 (Ai z1 (Ai z2 (Ai ((hj1.below hbW).below hT).bc.cell ((hj1.below hbW).below hT).ba.cell))))
   have hd3 : Below w3.heap.size w3 w3.drew := (Bq _ w3).drew
   have hs2 : W.heap.size <= w3.heap.size := Nat.le_trans hz1 hbW.size
   clear hN hb2 hbA hX b1
   by_cases hcol : xc = col
   case neg =>
    have hci : (xc != col) = true := by simpa using hcol
    have HF := hid (hF2.out (fun h => hcol h.1))
    have HJ := hid (hJ _ _ _ hJ1 (Af.of_below hbW.drew))
    clear hY hBG hj3 hF2 hcol hJ1
    gi_wp2
    refine wpIn_wide.2 ?_
    refine wp_region_noPanic ?_
    refine wR 24 (S := (fun w' => w'.cell? ⟨w2.heap.size, 0, none⟩ = some (.int .i64 no) /\ w'.cell? ⟨w2.heap.size, 1, none⟩ = some (.int .i64 xc) /\ w'.cell? ⟨w2.heap.size, 2, none⟩ = some (.slice A L ca) /\ w'.cell? ⟨Bc, 0, none⟩ = some (.int .i64 col) /\ w'.cell? ⟨Ba, 0, none⟩ = some (NU dk))) rfl ?_ (fun hHeld => ?_)
    ·(try dsimp only); exact HSS.out _ hd3
    simp only [gR]
    iterate 9 (refine wN hHeld ?_; try simp only [gS])
    refine wU 9 rfl (by rfl) hHeld ?_
    try simp only [gS]
    refine wU 10 rfl (by rfl) hHeld ?_
    try simp only [gS]
    refine wU 11 rfl (by rfl) hHeld ?_
    try simp only [gS]
    refine wU 12 rfl (by rfl) hHeld ?_
    try simp only [gS]
    refine wU 13 rfl (by rfl) hHeld ?_
    try simp only [gS]
    refine wU 14 rfl (by rfl) hHeld ?_
    try simp only [gS]
    refine wU 15 rfl (by rfl) hHeld ?_
    try simp only [gS]
    refine wU 16 rfl (by rfl) hHeld ?_
    try simp only [gS]
    iterate 2 (refine wN hHeld ?_; try simp only [gS])
    refine wU 19 rfl (by rfl) hHeld ?_
    try simp only [gS]
    refine wU 20 rfl (by rfl) hHeld ?_
    try simp only [gS]
    refine wU 21 rfl (by rfl) hHeld ?_
    try simp only [gS]
    refine wU 22 rfl (by rfl) hHeld ?_
    try simp only [gS]
    refine wN hHeld ?_; try simp only [gS]
    refine wpAnyH_done (by kernel_rfl) ?_ _
    refine NoPanic.normal ?_
    gi_wp2
    try simp only [Exit.noGoto_normal]
    go_end0
    exact ⟨⟨_, rfl⟩, .inl ⟨pre, HJ.out, HF.out⟩⟩
   case pos =>
    have hci : (xc != col) = false := by simpa using hcol
    by_cases hbg : g = Mw dk
    case neg =>
     have HF := hid (hF2.out (fun h => hbg h.2))
     have hB3 := hBG w3.drew hbW.drew
     clear hY hBG hF2 hcol
     rw [hbv] at HSS
     have hgf := decide_eq_false hbg
     have hJ3 := hJ _ _ _ hJ1 (Af.of_below hbW)
     clear hbg hJ1 hj1 hj3
     gi_wp2
     refine wpIn_wide.2 ?_
     refine wp_region_noPanic ?_
     refine wp_region_held_drew (S := (fun w' => w'.cell? ⟨w2.heap.size, 0, none⟩ = some (.int .i64 no) /\ w'.cell? ⟨w2.heap.size, 1, none⟩ = some (.int .i64 xc) /\ w'.cell? ⟨w2.heap.size, 2, none⟩ = some (.slice A L ca) /\ w'.cell? ⟨Bc, 0, none⟩ = some (.int .i64 col) /\ w'.cell? ⟨Ba, 0, none⟩ = some (.iface T (.agg #[])))) (by kernel_rfl) (HSS.out _ hd3) (fun hHeld => ?_)
     refine wI 0 hHeld ?_; try simp only [gS]
     refine wI 1 hHeld ?_; try simp only [gS]
     refine wI 2 hHeld ?_; try simp only [gS]
     refine wI 3 hHeld ?_; try simp only [gS]
     refine wI 4 hHeld ?_; try simp only [gS]
     refine wI 5 hHeld ?_; try simp only [gS]
     refine wI 6 hHeld ?_; try simp only [gS]
     refine wI 7 hHeld ?_; try simp only [gS]
     refine wI 8 hHeld ?_; try simp only [gS]
     refine wI 9 hHeld ?_; try simp only [gS]
     refine wI 10 hHeld ?_; try simp only [gS]
     refine wI 12 hHeld ?_; try simp only [gS]
     refine wI 13 hHeld ?_; try simp only [gS]
     refine wI 14 hHeld ?_; try simp only [gS]
     refine wB 11 rfl (fun K hK => ?_)
     go_simp
     refine hB3.mono ?_
     rintro e w5 ⟨rfl, hb5⟩
     have hT5 := hd3.trans hb5
     refine hK.out _ _ (HSS.out _ hT5) (fun hHeld2 => ?_)
     clear hK K hHeld
     have hHeld := hHeld2; clear hHeld2
     try simp only [gS]
     refine wB 15 rfl (fun K hK => ?_)
     go_simp
     refine (hS g w5).mono ?_
     rw [hgf]
     rintro e w6 ⟨rfl, hb6⟩
     have hT6 := hT5.trans (hb6.mono hT5.size)
     refine hK.out _ _ (HSS.out _ hT6) (fun hHeld2 => ?_)
     clear hK K hHeld
     have hHeld := hHeld2; clear hHeld2
     try simp only [gS]
     refine wI 16 hHeld ?_; try simp only [gS]
     refine wI 17 hHeld ?_; try simp only [gS]
     refine wI 18 hHeld ?_; try simp only [gS]
     refine wU 19 rfl (by rfl) hHeld ?_
     try simp only [gS]
     refine wU 20 rfl (by rfl) hHeld ?_
     try simp only [gS]
     refine wU 21 rfl (by rfl) hHeld ?_
     try simp only [gS]
     refine wU 22 rfl (by rfl) hHeld ?_
     try simp only [gS]
     refine wI 23 hHeld ?_; try simp only [gS]
     refine wpAnyH_done (by kernel_rfl) ?_ _
     refine NoPanic.normal ?_
     have HJ6 := hid (hJ _ _ _ hJ3 (Af.of_below hT6))
     gi_wp2
     try simp only [Exit.noGoto_normal]
     go_end0
     exact ⟨⟨_, rfl⟩, .inl ⟨pre, HJ6.out, HF.out⟩⟩
    case pos =>
     have hB3 := hBG w3.drew hbW.drew
     have HY := hid hY
     have HJ1 := hid hJ1
     have HTW := hid (fun (X : World) (hT : Below w3.heap.size w3 X) => (show Af (fun _ => False) W.heap.size wr X from Af.of_below (hbW.trans (hT.mono hbW.size))))
     have HAD := hid (fun (X : World) (hT : Below w3.heap.size w3 X) => (show Uz R b col dk cur pre (⟨no, xc, l⟩, (A, ca)) wr X from ⟨r, HES.out, hcol, HEN.out.2.trans hbg, (HEN.out.1.below ((hbW.mono HRD.out.rlt).trans (hT.mono (Nat.le_trans HRD.out.rlt hbW.size))))⟩))
     have HRJ := hid (fun (X : World) (hT : Below w3.heap.size w3 X) => (hj1.below hbW).below hT)
     clear hY hBG hF2 hcol hJ1 hj1 hj3
     rw [hbv] at HSS
     have hgf := decide_eq_true hbg
     have hc3 := HSS.out _ hd3
     obtain ⟨z0, z1, z2, z3, z4⟩ := hc3
     clear hbg
     gi_wp2
     gi_region_with (first
      | (refine (callsIn_wide.2 hB3).mono ?_; rintro e w5 ⟨rfl, hb5⟩; have hT5 := hd3.trans hb5; obtain ⟨p0, p1, p2, p3, p4⟩ := HSS.out _ hT5)
      | (refine (callsIn_wide.2 (hS g w5)).mono ?_; rw [hgf]; rintro e w6 ⟨rfl, hb6⟩; have hT6 := hT5.trans (hb6.mono hT5.size); obtain ⟨q0, q1, q2, q3, q4⟩ := HSS.out _ hT6; obtain ⟨fn, tmps, assign, body, hy, hRr⟩ := HY.out pre (⟨no, xc, l⟩, (A, ca)) wr w6 HJ1.out (HTW.out _ hT6) (HAD.out _ hT6); dsimp only [Rq] at hy; rw [HL.out] at hy)
      | (refine hRr.mono ?_; intro e W3 hh; obtain ⟨bb, rfl, hbb⟩ := SJ hh))
     all_goals
      have hs6 : W.heap.size <= w6.heap.size := Nat.le_trans hs2 hT6.size
      have hrj6 := HRJ.out _ hT6
      rcases hbb with ⟨rfl, hJ6, hk6⟩ | ⟨rfl, hJ6, hk6⟩
      ·have hrj7 := hrj6.keeps hk6 k1 k2 k3
       have hs7 : W.heap.size <= W3.heap.size := Nat.le_trans hs6 hk6.size
       have hln := OX (hJS _ _ hJ6)
       have hlc := hcur pre (⟨no, xc, l⟩, (A, ca)) r HES.out
       clear hy hRr hk6 hrj6 HRJ HTW HAD HY
       gi_wp2
       go_roundw
       case rel => first | exact ⟨_, hrj7, hs7, hJ6⟩ | exact ⟨_, hrj7, hJ6⟩ | exact ⟨_, hJ6⟩
       case measure => first | (rw [HM.out, hln, List.length_cons]; omega) | (show QV W3 R < QV wr R; rw [HM.out, hln, List.length_cons]; omega) | (rw [hln, List.length_cons]; omega) | (rw [hln]; simp only [List.length_cons]; omega) | (have h9 := HM.out; rw [List.length_cons] at h9; omega)
      ·clear hy hRr hk6 hrj6 HRJ HTW HAD HY
       gi_wp2
       try simp only [Exit.noGoto_normal]
       go_end0
       exact ⟨⟨_, rfl⟩, .inr ⟨_, hJ6⟩⟩
theorem JW (R b Br Bc Ba : Nat) (K : Nat -> Prop) (col : Int) (dk : Bool) (cur : List EL -> List En) (k1 : K Br) (k2 : K Bc) (k3 : K Ba)
  (hcur : ∀ pre y r, cur pre = y.1 :: r -> (cur (pre ++ [y])).length <= r.length) :
  Rt (fun _ => False) Tryz.prog 134 #[.pointer (some ⟨Br, 0, none⟩), .pointer (some ⟨Bc, 0, none⟩), .pointer (some ⟨Ba, 0, none⟩)] Rq (fun _ => False) K 0 (Uz R b col dk cur) (fun pre W => CE W R b (cur pre)) (Tf col dk cur)
   (fun W => RJ R Br Bc Ba col dk W) := by
 cases dk with
 | true => exact I3 R b Br Bc Ba K col true 149 267 rfl Tw T2 (enters_of Tryz.func267 (by kernel_rfl) rfl) LK cur k1 k2 k3 hcur
 | false => exact I3 R b Br Bc Ba K col false 150 268 rfl UT UM (enters_of Tryz.func268 (by kernel_rfl) rfl) M8 cur k1 k2 k3 hcur
end
end Go.Proofs.YtaogfdffgdglkaaGreatDoor
