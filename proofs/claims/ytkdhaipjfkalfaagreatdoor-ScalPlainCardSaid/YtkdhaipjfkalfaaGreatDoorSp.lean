import Derived.Test.YtkdhaipjfkalfaaGreatDoorLoop
import Derived.Test.YtkdhaipjfkalfaaGreatDoorMaps
import Derived.WideKeyRuns
import Derived.Test.YtkdhaipjfkalfaaGreatDoorSu
import Derived.Test.YtkdhaipjfkalfaaGreatDoorSl
/- What is proved: a range over a function whose iterator has cells of its own besides: the law of Loop, where what the body keeps (K) and what the iterator may turn (C) are told apart. No program stands in it. -/
namespace Go.Proofs.YtkdhaipjfkalfaaGreatDoor
open Go Go.RowKit
set_option linter.unusedVariables false

/-- AN ITERATOR's CONTRACT: it hands on xs, one by one, or stops where a round says so. -/
def IterK {α : Type} (P : Program) (gf : Nat) (lb : Array Value) (encs : α → Array Value) (C K : Nat → Prop) (n₀ : Nat) (xs : List α) (St : World → Prop) : Prop :=
  ∀ (l : Nat) (J Jx : List α → World → Prop) (W : World), St W → (∀ s X Y, J s X → Turn C W.heap.size X Y → J s Y) → (∀ s X Y, Jx s X → Turn C W.heap.size X Y → Jx s Y) →
    (∀ pre x W1, J pre W1 → pre ++ [x] <+: xs → YieldAt Fence.wide 0 P l (encs x) W1 fun e W' =>
      (e = .returned (.bool true) ∧ J (pre ++ [x]) W' ∧ Keeps Obj.isWalk K n₀ W1 W') ∨ (e = .returned (.bool false) ∧ Jx (pre ++ [x]) W' ∧ Keeps Obj.isWalk K n₀ W1 W')) →
    J [] W →
    CallsIn Fence.wide 0 P gf (#[.func (.yield l) #[] #[]] ++ lb) W fun e W' => (∃ v, e = .returned v) ∧ (J xs W' ∨ ∃ pre, pre <+: xs ∧ Jx pre W')

/-- How a round's body may be left. -/
def leftByK {α : Type} (K : Nat → Prop) (n₀ : Nat) (I : List α → World → Prop) (Ix : Code → List α → World → Prop) (s : List α) (W : World) : Exit → Act → World → Prop
  | .normal, _, W' => Keeps noCells K n₀ W W' ∧ I s W'
  | .ret, _, W' => Keeps noCells K n₀ W W' ∧ Ix .ret s W'
  | .exit id, _, W' => Keeps noCells K n₀ W W' ∧ Ix (.exit id) s W'
  | .goto t, _, W' => Keeps noCells K n₀ W W' ∧ Ix (.goto t) s W'
  | .panic _, _, _ => False
  | .outgrown, _, _ => False

variable {P : Program}

theorem rangeFunc_lawK {α : Type} {g : Operand} {ps : Array Tmp} {assign body : Code} {Q : Exit → Act → World → Prop} {a : Act} {w : World}
    {gf : Nat} {lb : Array Value} (hg : a.eval g = .func (.func gf) #[] lb) (eg : ∀ args w, (callFunc gf args).run P w = .ok (.enter gf args) w)
    {encs : α → Array Value} {C K : Nat → Prop} {n₀ : Nat} {xs : List α} {St : World → Prop} (hseq : IterK P gf lb encs C K n₀ xs St)
    (hst : ∀ Y, Below w.heap.size w Y → w.heap.size + 2 ≤ Y.heap.size → St Y) (hC : ∀ k, C k → k < w.heap.size) (hKD : ¬ K w.heap.size) (hKl : ¬ K (w.heap.size + 1)) (hn : n₀ ≤ w.heap.size) (hps : ∀ x, (encs x).size = ps.size)
    (I : List α → World → Prop) (Ix : Code → List α → World → Prop) (hI : ∀ s X Y, I s X → Turn C w.heap.size X Y → I s Y) (hIx : ∀ c s X Y, Ix c s X → Turn C w.heap.size X Y → Ix c s Y) (h0 : I [] w)
    (hround : ∀ (l : Nat) (pre : List α) (x : α) (W : World), w.heap.size ≤ l → I pre W → pre ++ [x] <+: xs →
      assign.wpIn (Fence.wide.inRound l) 0 P (Exit.then (fun a' W' => Keeps noCells K n₀ W W' ∧ ∀ Wb, Turn C w.heap.size W' Wb → (∃ r, Wb.heap[l]? = some (.loop r)) → body.wpIn (Fence.wide.inRound l) 0 P (leftByK K n₀ I Ix (pre ++ [x]) Wb) a' Wb) (fun _ _ _ => False))
        { tmps := (ps.zip (encs x)).foldl (fun t (p, v) => t.setIfInBounds p v) a.tmps, defers := [] } W)
    (hdone : ∀ (D : Nat) (W : World), w.heap.size ≤ D → I xs W → W.heap[D]? = some (.deferred (some [])) → Q .normal { a with defers := { target := .collected D, args := #[] } :: a.defers } W)
    (hstop : ∀ (D : Nat) (c : Code) (pre : List α) (W : World), w.heap.size ≤ D → pre <+: xs → Ix c pre W → W.heap[D]? = some (.deferred (some [])) → c.wpIn Fence.wide 0 P Q { a with defers := { target := .collected D, args := #[] } :: a.defers } W) :
    (Code.rangeFunc g ps assign body).wpIn Fence.wide 0 P Q a w := by
  refine wpIn_rangeFunc (fun fn hfn => ?_)
  obtain ⟨rec, hrec⟩ : ∃ rec : LoopState → Option Code → Loop, rec = fun st pe => { state := st, pending := pe, fn, tmps := a.tmps, params := ps, assign, body, defers := w.heap.size } := ⟨_, rfl⟩
  obtain ⟨W1, hW1⟩ : ∃ W1, (w.alloc (.deferred (some []))).alloc (.loop (rec .ready none)) = W1 := ⟨_, rfl⟩
  have hz1 : W1.heap.size = w.heap.size + 1 + 1 := by rw [← hW1]; simp
  have hL1 : W1.heap[w.heap.size + 1]? = some (.loop (rec .ready none)) := by
    rw [← hW1]; have := World.alloc_heap_new (w.alloc (.deferred (some []))) (.loop (rec .ready none)); rwa [World.size_alloc] at this
  have hD1 : W1.heap[w.heap.size]? = some (.deferred (some [])) := by
    rw [← hW1]; exact (Below.heap_alloc _ _ _ (by simp)).trans (World.alloc_heap_new w _)
  have hB1 : Below w.heap.size w W1 := by
    rw [← hW1]; exact ((Below.refl _ w).alloc (Nat.le_refl _) _).alloc (by simp) _
  have hI1 : I [] W1 := by rw [← hW1]; exact hI _ _ _ (hI _ _ _ h0 (Turn.alloc _ _)) (Turn.alloc _ _)
  have hCl : ¬ C (w.heap.size + 1) := fun h => by have := hC _ h; omega
  have hCD : ¬ C w.heap.size := fun h => by have := hC _ h; omega
  refine ⟨w.heap.size + 1, [{ target := .collected w.heap.size, args := #[] }], W1, { target := .fn (.func gf) lb, args := #[.func (.yield (w.heap.size + 1)) #[] #[]] }, W1, gf,
    #[.func (.yield (w.heap.size + 1)) #[] #[]] ++ lb, W1, ?_, ?_, ?_, ?_, fun h => by simp [Fence.wide] at h, ?_⟩
  · rw [← hW1, hrec]; exact run_enterLoop_outer _ _ _ _ _
  · simp only [resolve, hg]
    simp [go_sem]
  · intro f' _; trivial
  · simp [invoke, go_sem, eg]
  refine (hseq (w.heap.size + 1)
    (fun pre W => I pre W ∧ W.heap[w.heap.size + 1]? = some (.loop (rec .ready none)) ∧ W.heap[w.heap.size]? = some (.deferred (some [])))
    (fun pre W => ∃ c, Ix c pre W ∧ W.heap[w.heap.size + 1]? = some (.loop (rec .done (some c))) ∧ W.heap[w.heap.size]? = some (.deferred (some [])))
    W1 (hst _ hB1 (by omega))
    (fun s X Y hs ht => ⟨hI _ _ _ hs.1 (ht.mono (by omega)), ht.old hs.2.1 hCl (by omega), ht.old hs.2.2 hCD (by omega)⟩)
    (fun s X Y hs ht => by
      obtain ⟨c, hc, hl, hk⟩ := hs
      exact ⟨c, hIx _ _ _ _ hc (ht.mono (by omega)), ht.old hl hCl (by omega), ht.old hk hCD (by omega)⟩)
    ?_ ⟨hI1, hL1, hD1⟩).mono ?_
  · rintro pre x W ⟨hi, hl, hk⟩ hpre
    have hy := run_yield (P := P) (args := encs x) hl (by rw [hrec]; exact hps x)
    rw [hrec] at hy
    refine ⟨fn, _, assign, body, hy, roundIn_of_wpIn hfn (wpIn_mono (hround _ pre x W (by omega) hi hpre) ?_)⟩
    clear hy
    intro e0 a' Wa he0
    cases e0 with
    | normal => ?_
    | _ => exact he0.elim
    obtain ⟨hka, hbd⟩ := he0
    have hla : Wa.heap[w.heap.size + 1]? = some (.loop (rec .ready none)) := hka.heap hl (.inr (.inr rfl))
    have hDa : Wa.heap[w.heap.size]? = some (.deferred (some [])) := hka.heap hk (.inr (.inr rfl))
    have hlt : w.heap.size + 1 < Wa.heap.size := (Array.getElem?_eq_some_iff.1 hla).1
    refine ⟨_, run_beginRound hla (by rw [hrec]), ?_⟩
    obtain ⟨Wb, hWb⟩ : ∃ Wb, Wa.putObj (w.heap.size + 1) (.loop { rec .ready none with state := .busy }) = Wb := ⟨_, rfl⟩
    have hl2 : Wb.heap[w.heap.size + 1]? = some (.loop { rec .ready none with state := .busy }) := by rw [← hWb]; exact World.putObj_heap_same hlt
    have hD2 : Wb.heap[w.heap.size]? = some (.deferred (some [])) := by rw [← hWb]; exact (World.putObj_heap_other (by omega)).trans hDa
    have hk2 : Keeps Obj.isWalk K n₀ Wa Wb := by rw [← hWb]; exact Keeps.putObj _ hla (by omega) hKl rfl
    have hta : Turn C w.heap.size Wa Wb := by rw [← hWb]; exact Turn.putObj _ hla (by omega) rfl
    rw [hWb]
    refine wpIn_mono (hbd Wb hta ⟨_, hl2⟩) ?_
    have fin : ∀ (jump : Option Code) (W3 : World), Keeps noCells K n₀ Wb W3 →
        (Instr.endRound (w.heap.size + 1) jump).run P W3 = .ok (.bool jump.isNone) (W3.putObj (w.heap.size + 1) (.loop (rec (if jump.isNone then .ready else .done) jump))) ∧
        (W3.putObj (w.heap.size + 1) (.loop (rec (if jump.isNone then .ready else .done) jump))).heap[w.heap.size + 1]? = some (.loop (rec (if jump.isNone then .ready else .done) jump)) ∧
        (W3.putObj (w.heap.size + 1) (.loop (rec (if jump.isNone then .ready else .done) jump))).heap[w.heap.size]? = some (.deferred (some [])) ∧
        Turn C w.heap.size W3 (W3.putObj (w.heap.size + 1) (.loop (rec (if jump.isNone then .ready else .done) jump))) ∧
        Keeps Obj.isWalk K n₀ W3 (W3.putObj (w.heap.size + 1) (.loop (rec (if jump.isNone then .ready else .done) jump))) := fun jump W3 hk3 => by
      have hl3 : W3.heap[w.heap.size + 1]? = some (.loop { rec .ready none with state := .busy }) := hk3.heap hl2 (.inr (.inr rfl))
      have hD3 : W3.heap[w.heap.size]? = some (.deferred (some [])) := hk3.heap hD2 (.inr (.inr rfl))
      have hr := run_endRound (P := P) jump hl3
      rw [hrec] at hr ⊢
      exact ⟨hr, World.putObj_heap_same (Array.getElem?_eq_some_iff.1 hl3).1, (World.putObj_heap_other (by omega)).trans hD3, Turn.putObj _ hl3 (by omega) rfl, Keeps.putObj _ hl3 (by omega) hKl rfl⟩
    rintro e a3 W3 hp
    cases e with
    | normal =>
      obtain ⟨hr, hl4, hD4, ht4, hk4⟩ := fin none W3 hp.1
      exact ⟨_, _, hr, .inl ⟨rfl, ⟨hI _ _ _ hp.2 ht4, hl4, hD4⟩, ((hka.walks.trans hk2).trans hp.1.walks).trans hk4⟩⟩
    | ret =>
      obtain ⟨hr, hl4, hD4, ht4, hk4⟩ := fin (some .ret) W3 hp.1
      exact ⟨_, _, hr, .inr ⟨rfl, ⟨.ret, hIx _ _ _ _ hp.2 ht4, hl4, hD4⟩, ((hka.walks.trans hk2).trans hp.1.walks).trans hk4⟩⟩
    | exit id =>
      obtain ⟨hr, hl4, hD4, ht4, hk4⟩ := fin (some (.exit id)) W3 hp.1
      exact ⟨_, _, hr, .inr ⟨rfl, ⟨.exit id, hIx _ _ _ _ hp.2 ht4, hl4, hD4⟩, ((hka.walks.trans hk2).trans hp.1.walks).trans hk4⟩⟩
    | goto t =>
      obtain ⟨hr, hl4, hD4, ht4, hk4⟩ := fin (some (.goto t)) W3 hp.1
      exact ⟨_, _, hr, .inr ⟨rfl, ⟨.goto t, hIx _ _ _ _ hp.2 ht4, hl4, hD4⟩, ((hka.walks.trans hk2).trans hp.1.walks).trans hk4⟩⟩
    | panic ch => exact hp.elim
    | outgrown => exact hp.elim
  · rintro e W2 ⟨⟨v, rfl⟩, (⟨hi, hl, hk⟩ | ⟨pre, hpre, c, hi, hl, hk⟩)⟩
    · refine ⟨none, _, by have := run_endLoop (P := P) hl (by rw [hrec]; simp); rw [hrec] at this; exact this, hdone _ _ (Nat.le_refl _) (hI _ _ _ hi (Turn.putObj _ hl (by omega) rfl)) ((World.putObj_heap_other (by omega)).trans hk)⟩
    · refine ⟨some c, _, by have := run_endLoop (P := P) hl (by rw [hrec]; simp); rw [hrec] at this; exact this, hstop _ c pre _ (Nat.le_refl _) hpre (hIx _ _ _ _ hi (Turn.putObj _ hl (by omega) rfl)) ((World.putObj_heap_other (by omega)).trans hk)⟩

end Go.Proofs.YtkdhaipjfkalfaaGreatDoor

/- What is proved: maps that a call makes, whose keys are structs, as lists of keys and values; no program stands in it. -/
namespace Go.Proofs.YtkdhaipjfkalfaaGreatDoor
open Go Go.MapKept

section
variable {α : Type} [BEq α] {enc : α → Value} {P : Program} {k : TypeId}
  (hwide : (match P.underlying k with | some (.array _ _) | some (.struct _) => true | _ => false) = true)
  (heq : ∀ (a b : α) (w : World), (Op.equal k (enc a) (enc b)).run P w = .ok (a == b) w)
  (hchk : ∀ (a : α) (em : Bool) (w : World), (Instr.checkKey em 10000 k (enc a)).run P w = .ok () w)

include heq in
theorem findAsk_list (a : α) (w : World) : ∀ (l : List (α × Value)) (n i : Nat), (Instr.findAsking k (enc a) ((l.zipIdx n).map fun p => { key := enc p.1.1, val := p.1.2, born := p.2 }) i).run P w = .ok (findL a l i) w
  | [], n, i => by simp [Instr.findAsking, findL]
  | p :: l, n, i => by
    simp only [List.zipIdx_cons, List.map_cons, Instr.findAsking, Sem.run_bind, heq, Result.andThen_ok, findL]
    cases h : a == p.1
    · simp [findAsk_list a w l (n + 1) (i + 1)]
    · simp

include hwide heq hchk
variable {w : World} {t e : TypeId}
/-- A look-up, with its second answer. -/
theorem run_lookup_wide (ht : P.underlying t = some (.map k e)) {z : Value} (hz : (zeroValue e).run P w = .ok z w) {b : Nat} {l : List (α × Value)} (hb : w.heap[b]? = some (mapObj enc l)) (a : α) (ok : Bool) :
    (Instr.lookup t (.map (some b)) (enc a) ok).run P w = .ok (if ok then .tuple #[(assoc a l).getD z, .bool (assoc a l).isSome] else (assoc a l).getD z) w := by
  have hf := findAsk_list (P := P) heq a w l 0 0
  rw [← run_findKey_eq w hwide] at hf
  have hc := fun em => hchk a em w
  have hf2 := findL_assoc a l 0
  unfold Instr.lookup
  simp only [Sem.run_bind, run_underlying ht, Result.andThen, _root_.Go.MapKept.run_getObj_map (show w.heap[b]? = some (.map _ _) from hb), Sem.run_pure, hc, hf]
  cases hfl : findL a l 0 with
  | none => rw [hfl] at hf2; cases ok <;> simp [hz, ← hf2, Result.andThen]
  | some q => rw [hfl] at hf2; cases ok <;> simp [← hf2]
/-- A store under a key that is not there yet. -/
theorem run_put_wide (ht : P.underlying t = some (.map k e)) {b : Nat} {l : List (α × Value)} (hb : w.heap[b]? = some (mapObj enc l)) (a : α) (v : Value) (hno : assoc a l = none) :
    (Instr.mapUpdate t (.map (some b)) (enc a) v).run P w = .ok () (w.putObj b (mapObj enc (l ++ [(a, v)]))) := by
  have hf := findAsk_list (P := P) heq a w l 0 0
  rw [← run_findKey_eq w hwide] at hf
  have hc := hchk a false w
  rw [findL_none hno] at hf
  unfold Instr.mapUpdate
  simp only [Sem.run_bind, run_underlying ht, Result.andThen, _root_.Go.MapKept.run_getObj_map (show w.heap[b]? = some (.map _ _) from hb), hc, hf]
  rw [_root_.Go.MapKept.run_setObj_map _ (show w.heap[b]? = some (.map _ _) from hb)]
  simp [World.putObj, mapObj, List.zipIdx_append]
end
end Go.Proofs.YtkdhaipjfkalfaaGreatDoor

/- What is proved: the ones of a list, up to the first that was there before: they are fewer just if one is there twice; no program stands in it. -/
namespace Go.Proofs.YtkdhaipjfkalfaaGreatDoor
section
variable {α : Type} [DecidableEq α]
/-- Those of l up to the first that is among those met, or was there before. -/
def freshL (met : List α) : List α → List α
  | [] => []
  | x :: r => if x ∈ met then [] else x :: freshL (met ++ [x]) r
theorem fresh_len (met : List α) : ∀ l : List α, (freshL met l).length ≤ l.length
  | [] => Nat.le_refl _
  | x :: r => by
    unfold freshL
    split
    · simp
    · have := fresh_len (met ++ [x]) r
      simp only [List.length_cons]; omega
theorem fresh_dup : ∀ (l met : List α), met.Nodup → decide ((freshL met l).length < l.length) = !decide (met ++ l).Nodup
  | [], met, h => by simp [freshL, h]
  | x :: r, met, h => by
    unfold freshL
    split
    · rename_i hx
      have hn : ¬ (met ++ x :: r).Nodup := fun k => (List.nodup_append.1 k).2.2 _ hx x (by simp) rfl
      simp [hn]
    · rename_i hx
      have h' : (met ++ [x]).Nodup := by
        rw [List.nodup_append]
        exact ⟨h, by simp, fun a ha b hb => by simp only [List.mem_singleton] at hb; subst hb; rintro rfl; exact hx ha⟩
      have := fresh_dup r (met ++ [x]) h'
      rw [List.append_assoc, List.singleton_append] at this
      rw [← this]
      simp
theorem fresh_dupL (l : List α) : decide ((freshL [] l).length < l.length) = dupL l := by
  rw [fresh_dup l [] List.nodup_nil]
  rfl
end
end Go.Proofs.YtkdhaipjfkalfaaGreatDoor

/- What is proved: package scal's fresh, as an iterator; Twice: is one there twice. -/
namespace Go.Proofs.YtkdhaipjfkalfaaGreatDoor
open Go Go.RowKit Go.Lib
set_option linter.unusedSimpArgs false
set_option linter.unusedVariables false
attribute [local go_sem] Oper.semAt_some

theorem fresh_any (A : Option Addr) (n c : Nat) (w : World) :
    Calls Tryz.prog 43 #[.slice A n c] w fun e w' => e = .returned (.func (.func 65) #[] #[.pointer (some ⟨w.heap.size, 0, none⟩)]) ∧ w' = w.alloc (.cells #[.slice A n c] 34) := by
  go_enter Tryz.func43, Tryz.ntmps43
  go_wp2
  go_ret
  exact ⟨by simp, rfl⟩

/-! A map of scalars. -/
theorem equal_sc (a b : Sc) (w : World) : (Op.equal 23 (scV a) (scV b)).run Tryz.prog w = .ok (decide (a = b)) w := by
  have h := eql_sc a.kind a.num b.kind b.num a.str b.str w
  rw [run_eql_struct, sc_eq a b] at h
  show (Op.equalIn 10000 23 _ _).run Tryz.prog w = _
  unfold scV
  revert h
  generalize (Op.equalIn 10000 23 _ _).run Tryz.prog w = r
  intro h
  cases r with
  | ok b1 w1 =>
    simp only [Result.andThen] at h
    injection h with h1 h2
    injection h1 with h1
    rw [h1, h2]
  | halt x w1 => simp [Result.andThen] at h
theorem check_sc (a : Sc) (em : Bool) (w : World) : (Instr.checkKey em 10000 23 (scV a)).run Tryz.prog w = .ok () w := by
  kernel_rfl

instance : LawfulBEq Sc := inferInstance
/-- The scalars met, as a map's entries. -/
def metL (ts : List Sc) : List (Sc × Value) := ts.map fun x => (x, .bool true)
theorem assoc_met (x : Sc) : ∀ ts : List Sc, assoc x (metL ts) = if x ∈ ts then some (.bool true) else none
  | [] => rfl
  | y :: r => by
    have ih := assoc_met x r
    unfold metL at ih ⊢
    rw [List.map_cons]
    unfold assoc
    rw [ih]
    by_cases h : x = y
    · simp [h]
    · simp [h]
theorem met_snoc (ts : List Sc) (x : Sc) : metL (ts ++ [x]) = metL ts ++ [(x, .bool true)] := by unfold metL; simp
theorem run_met (w : World) (b : Nat) (ts : List Sc) (hb : w.heap[b]? = some (mapObj scV (metL ts))) (x : Sc) :
    (Instr.lookup 76 (.map (some b)) (scV x) false).run Tryz.prog w = .ok (.bool (decide (x ∈ ts))) w := by
  rw [run_lookup_wide (P := Tryz.prog) (enc := scV) (k := 23) (e := 4) (z := .bool false) (by kernel_rfl) (fun a b w => equal_sc a b w) check_sc Tryz.underlying76 (by kernel_rfl) hb x false, assoc_met]
  by_cases h : x ∈ ts <;> simp [h]
theorem run_meet (w : World) (b : Nat) (ts : List Sc) (hb : w.heap[b]? = some (mapObj scV (metL ts))) (x : Sc) (hx : x ∉ ts) :
    (Instr.mapUpdate 76 (.map (some b)) (scV x) (.bool true)).run Tryz.prog w = .ok () (w.putObj b (mapObj scV (metL (ts ++ [x])))) := by
  rw [met_snoc]
  exact run_put_wide (P := Tryz.prog) (enc := scV) (k := 23) (e := 4) (by kernel_rfl) (fun a b w => equal_sc a b w) check_sc Tryz.underlying76 hb x (.bool true) (by rw [assoc_met, if_neg hx])

set_option maxRecDepth 100000 in
set_option maxHeartbeats 2000000 in
theorem fresh_iter (ts : List Sc) (A : Option Addr) (cap Bs n₀ M : Nat) (hn : ts.length ≤ 1000000) :
    IterK Tryz.prog 65 #[.pointer (some ⟨Bs, 0, none⟩)] encS (fun _ => False) (fun k => M ≤ k) n₀ (freshL [] ts) (fun W => M ≤ W.heap.size ∧ Boxed W Bs 34 (.slice A ts.length cap) ∧ RowN W A ts n₀) := by
  intro l J Jx W ⟨hMW, hB, hR⟩ hJ hJx hY h0
  obtain ⟨n, hnn⟩ : ∃ n, ts.length = n := ⟨_, rfl⟩
  have HN := hid hnn
  rw [hnn] at hB hn
  clear hnn
  refine callsIn_of_wp Tryz.func65 rfl trivial ?_ rfl
  simp only [Tryz.ntmps65, List.size_toArray, List.length_cons, List.length_nil, Nat.reduceAdd, Nat.reduceSub, Array.replicate_succ, Array.replicate_zero, List.push_toArray, List.append_toArray, List.nil_append, List.cons_append]
  have hB0 : Boxed (W.alloc (.map #[] 0)) Bs 34 (.slice A n cap) := hB.alloc _
  have c0 := hB0.cell
  have hmm := @run_makeMap Tryz.prog
  gi_wp2
  refine wpIn_scope ?_
  gi_wp2
  refine wpIn_label ?_
  gi_wp2
  gi_loopw [9] (fun i wr => ∃ k : Nat, k ≤ n ∧ i = .int .i64 k ∧ J (ts.take k) wr ∧ RowN wr A ts n₀ ∧ W.heap.size < wr.heap.size ∧ wr.heap[W.heap.size]? = some (mapObj scV (metL (ts.take k))) ∧ Hid (freshL [] ts = ts.take k ++ freshL (ts.take k) (ts.drop k))) (fun i _ => n - (intOf i).toNat)
  case atStart => exact ⟨0, by omega, rfl, hJ _ _ _ (by simpa using h0) (Turn.alloc _ _), hR.below ((Below.refl _ W).alloc (Nat.le_refl _) _), by simp, World.alloc_heap_new W _, hid rfl⟩
  case round =>
    obtain ⟨k, hk, rfl, hJs, hRw, hsz, hM, HF⟩ := hrel
    clear hB hR h0 c0 hB0
    by_cases hlt : k < n
    · obtain ⟨b, o, rfl, hb, a0, a1, a2⟩ := hRw k (by rw [HN.out]; exact hlt)
      have hki : (k : Int) < (n : Int) := by omega
      obtain ⟨x, hx⟩ : ∃ x, ts.getD k sc0 = x := ⟨_, rfl⟩
      have hkl : k < ts.length := by rw [HN.out]; exact hlt
      have hx' : ts[k] = x := by rw [← hx]; simp [List.getD, List.getElem?_eq_getElem hkl]
      rw [hx] at a0 a1 a2
      have hdrop : ts.drop k = x :: ts.drop (k + 1) := by rw [← hx']; exact List.drop_eq_getElem_cons hkl
      have htake : ts.take (k + 1) = ts.take k ++ [x] := by rw [← hx']; exact List.take_succ_eq_append_getElem hkl
      have HDT := hid (And.intro hdrop htake)
      clear hx hx' hdrop htake
      obtain ⟨k1, n1, s1⟩ := x
      have hba := (Below.refl _ wr).alloc (Nat.le_refl _) (.cells #[.int .i64 k1, .int .i64 n1, .string s1] 23)
      have hJ1 := hJ _ _ _ hJs (Turn.alloc wr (.cells #[.int .i64 k1, .int .i64 n1, .string s1] 23))
      have hR1 := hRw.below hba
      have hM1 := heap_below hM hba
      have hlk := run_met _ _ _ hM1 ⟨k1, n1, s1⟩
      unfold scV at hlk
      by_cases hmem : (⟨k1, n1, s1⟩ : Sc) ∈ ts.take k
      · rw [decide_eq_true hmem] at hlk
        have HE := hid (show freshL [] ts = ts.take k by rw [HF.out, HDT.out.1]; unfold freshL; rw [if_pos hmem, List.append_nil])
        clear hY hba hmem hM
        gi_wp2
        refine ⟨fun _ _ => trivial, ?_⟩
        gi_wp2
        try simp only [Exit.noGoto_normal]
        go_end0
        exact ⟨⟨_, rfl⟩, .inl (by rw [HE.out]; exact hJ1)⟩
      · rw [decide_eq_false hmem] at hlk
        have hfr : freshL [] ts = ts.take (k + 1) ++ freshL (ts.take (k + 1)) (ts.drop (k + 1)) := by
          rw [HF.out, HDT.out.1, HDT.out.2]
          conv => lhs; rw [freshL, if_neg hmem]
          rw [List.append_assoc]; rfl
        have hpr : ts.take k ++ [(⟨k1, n1, s1⟩ : Sc)] <+: freshL [] ts := by rw [hfr, HDT.out.2]; exact List.prefix_append _ _
        obtain ⟨fn, tmps, assign, body, hy, hR⟩ := hY _ _ _ hJ1 hpr
        unfold encS scV at hy
        have HPR := hid (And.intro hpr hfr)
        have HMem := hid hmem
        clear hpr hfr hba hmem hM hY
        gi_wp2
        refine ⟨rfl, hR.mono ?_⟩
        rintro e W3 (⟨rfl, hJ3, hk3⟩ | ⟨rfl, hJ3, hk3⟩)
        · have hR3 := hR1.keeps hk3
          have hM3 := hk3.heap hM1 (.inr (.inr rfl))
          have hup := run_meet _ _ _ hM3 ⟨k1, n1, s1⟩ HMem.out
          unfold scV at hup
          have hJ4 := hJ _ _ _ hJ3 (Turn.putObj (mapObj scV (metL (ts.take k ++ [⟨k1, n1, s1⟩]))) hM3 (Nat.le_refl _) rfl)
          have hM4 : (W3.putObj W.heap.size (mapObj scV (metL (ts.take k ++ [⟨k1, n1, s1⟩])))).heap[W.heap.size]? = some (mapObj scV (metL (ts.take k ++ [⟨k1, n1, s1⟩]))) := World.putObj_heap_same (Array.getElem?_eq_some_iff.1 hM3).1
          have hR4 := hR3.turn (Turn.putObj (B := 0) (mapObj scV (metL (ts.take k ++ [⟨k1, n1, s1⟩]))) hM3 (Nat.zero_le _) rfl)
          have hX3 := hk3.heap (World.alloc_heap_new wr (.cells #[.int .i64 k1, .int .i64 n1, .string s1] 23)) (.inr (.inl (by show M ≤ wr.heap.size; omega)))
          obtain ⟨d0, d1, d2, _⟩ := blk3 hX3
          have hsz4 : W.heap.size < (W3.putObj W.heap.size (mapObj scV (metL (ts.take k ++ [⟨k1, n1, s1⟩])))).heap.size := by
            have := hk3.size
            simp at this ⊢; omega
          clear hy a0 a1 a2 hRw hR1 hM1 hlk hM3 hJ3 hR3
          gi_wp2
          go_roundw
          case rel => exact ⟨k + 1, by omega, by go_num, by rw [HDT.out.2]; exact hJ4, hR4, hsz4, by rw [HDT.out.2]; exact hM4, hid HPR.out.2⟩
          case measure => simp [intOf]; omega
        · clear hy a0 a1 a2 hRw hR1 hM1 hlk
          gi_wp2
          try simp only [Exit.noGoto_normal]
          go_end0
          exact ⟨⟨_, rfl⟩, .inr ⟨_, HPR.out.1, hJ3⟩⟩
    · have hki : ¬ (k : Int) < (n : Int) := by omega
      have HE := hid (show freshL [] ts = ts.take k by
        rw [HF.out, List.drop_eq_nil_of_le (by rw [HN.out]; omega)]; simp [freshL])
      gi_wp2
      try simp only [Exit.noGoto_normal]
      go_end0
      exact ⟨⟨_, rfl⟩, .inl (by rw [HE.out]; exact hJs)⟩

set_option maxRecDepth 100000 in
set_option maxHeartbeats 4000000 in
theorem twice_any (v : Value) (ts : List Sc) (w : World) (hv : ScIn w v ts) (hn : ts.length ≤ 1000000) :
    Calls Tryz.prog 24 #[v] w fun e w' => e = .returned (.bool (dupL ts)) ∧ Below w.heap.size w w' := by
  obtain ⟨A, cap, rfl, hR⟩ := RowN.of hv
  rw [← fresh_dupL]
  obtain ⟨N, hN⟩ : ∃ N, w.heap.size = N := ⟨_, rfl⟩
  rw [hN] at hR ⊢
  have HIT := hid (fun n₀ M => fresh_iter ts A cap (N + 1) n₀ M hn)
  obtain ⟨fs, hfs⟩ : ∃ fs, freshL [] ts = fs := ⟨_, rfl⟩
  have hfl := fresh_len [] ts
  rw [hfs] at HIT hfl ⊢
  have hfl' : fs.length ≤ 1000000 := by omega
  clear hfs hfl
  refine (callsIn_wide (n := 0)).1 ?_
  refine callsIn_of_wp_marks Tryz.func24 rfl trivial ?_ rfl
  refine wpIn_wide.2 ?_
  simp only [Tryz.ntmps24, List.size_toArray, List.length_cons, List.length_nil, Nat.reduceAdd, Nat.reduceSub, Array.replicate_succ, Array.replicate_zero, List.push_toArray, List.append_toArray, List.nil_append, List.cons_append]
  go_wp2_with fail
  refine (fresh_any _ _ _ _).mono ?_
  rintro e w1 ⟨rfl, hw1⟩
  have b0 : Boxed w1 N 3 (.int .i64 0) := by rw [hw1, ← hN]; exact (Boxed.new w _ _).alloc _
  have b1 : Boxed w1 (N + 1) 34 (.slice A ts.length cap) := by
    have := Boxed.new (w.alloc (.cells #[.int .i64 0] 3)) 34 (.slice A ts.length cap)
    rw [hw1]; rw [World.size_alloc, hN] at this; exact this
  have hb0 : Below N w w1 := by rw [hw1]; exact ((Below.refl N w).alloc (by omega) _).alloc (by simp; omega) _
  have hR1 : RowN w1 A ts N := by rw [hw1]; exact (hR.below ((Below.refl _ w).alloc (Nat.le_refl _) _)).below ((Below.refl _ _).alloc (Nat.le_refl _) _)
  have hz1 : w1.heap.size = N + 1 + 1 := by rw [hw1]; simp [hN]
  clear hw1 hR
  go_wp2
  refine (wpIn_wide (n := 0)).1 ?_
  refine rangeFunc_lawK (gf := 65) (lb := #[.pointer (some ⟨N + 1, 0, none⟩)]) rfl (enters_of Tryz.func65 (by kernel_rfl) rfl) (HIT.out N (N + 1 + 1 + 1 + 1))
    (fun Y hY hz => ⟨by omega, boxed_below b1 hY, hR1.below hY⟩) (fun k hk => hk.elim) (by omega) (by omega) (by omega) (fun x => rfl)
    (fun pre W => Boxed W N 3 (.int .i64 (pre.length : Int)) ∧ Below N w W)
    (fun co pre W => False)
    ?hI ?hIx ⟨b0, hb0⟩ ?round ?done ?stop
  case hI =>
    rintro pre X Y ⟨h1, h2⟩ ht
    exact ⟨boxed_turn h1 ht (fun f => f), ht.below h2 (fun k hk => hk.elim) (by omega) (by omega)⟩
  case hIx =>
    rintro co pre X Y h ht
    exact h
  case stop =>
    rintro D co pre W hD hpre h hK
    exact h.elim
  case round =>
    rintro l pre x W hl ⟨h1, h2⟩ hpre
    have hpl := hpre.length_le
    rw [List.length_append] at hpl
    simp only [List.length_singleton] at hpl
    have HPL := hid (show (pre ++ [x]).length = pre.length + 1 by simp)
    unfold encS scV
    gi_wp2
    refine ⟨Keeps.refl _ _ _ _, fun Wb ht _ => ?_⟩
    have h1' := boxed_turn h1 ht (fun f => f)
    have h2' := ht.below h2 (fun k hk => hk.elim) (by omega) (by omega)
    have c0 := h1'.cell; have f0 := h1'.frozen
    have hpi : (pre.length : Int) ≤ 1000000 := by omega
    have hpi0 : (0 : Int) ≤ (pre.length : Int) := by omega
    have FIN := hid (show Keeps noCells (fun k => N + 1 + 1 + 1 + 1 ≤ k) N Wb (Wb.setCell ⟨N, 0, none⟩ (.int .i64 ((pre.length : Int) + 1))) ∧ Boxed (Wb.setCell ⟨N, 0, none⟩ (.int .i64 ((pre.length : Int) + 1))) N 3 (.int .i64 ((pre ++ [x]).length : Int)) ∧ Below N w (Wb.setCell ⟨N, 0, none⟩ (.int .i64 ((pre.length : Int) + 1))) from
      ⟨Keeps.setCell Wb ⟨N, 0, none⟩ _ (Nat.le_refl _) (by show ¬ (N + 1 + 1 + 1 + 1 ≤ N); omega), by rw [HPL.out]; exact h1'.set _, h2'.setCell (p := ⟨N, 0, none⟩) (Nat.le_refl _) _⟩)
    clear h1 h2 h1' h2' ht hpre hpl
    gi_wp2
    exact FIN.out
  case done =>
    rintro D W hD ⟨h1, h2⟩ hK
    have c0 := h1.cell; have f0 := h1.frozen
    have hcmp : decide ((fs.length : Int) < (ts.length : Int)) = decide (fs.length < ts.length) := decide_eq_decide.2 (by omega)
    have HC := hid hcmp
    clear hcmp
    go_wp2
    refine ⟨by simp, .inl ⟨_, _, rfl, run_takeDeferred hK, ?_⟩⟩
    refine ⟨.bool (decide (fs.length < ts.length)), by simp [results, Tryz.f24, go_sem], ?_⟩
    exact ⟨rfl, below_shut h2 hK (by omega) (by omega) _⟩
end Go.Proofs.YtkdhaipjfkalfaaGreatDoor
