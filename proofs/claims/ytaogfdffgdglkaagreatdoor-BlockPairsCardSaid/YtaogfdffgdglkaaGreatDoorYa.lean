/- What is proved: a part of the walk of the program and of its plain laws; no condition beside those that each theorem names. -/
import Derived.Below
import Derived.RangeFuncRecord
import Derived.Deep.RegionHeld3
import Derived.RangeFuncBox
import Derived.RangeFuncCalls
import Derived.Test.YtaogfdffgdglkaaGreatDoorProg
import Derived.Test.YtaogfdffgdglkaaGreatDoorShelf
import Derived.WalkKit
import Derived.WalkSpells
import Derived.WalkLawsBesides
import Derived.OwnWalkIn
import Derived.TacticsInMore
import Derived.LoopNIn
import Derived.LoopIn
import Derived.Shelf.Abstract
import Derived.Shelf.RegionOpen
import Derived.Lib.OthersKept
import Derived.Lib.ValidLaws
namespace Go.Proofs.YtaogfdffgdglkaaGreatDoor
open Go Go.RowKit Go.Lib
set_option linter.unusedSimpArgs false
set_option linter.unusedVariables false
section
open Go Go.RowKit
theorem Nr {a : Nat} : a ≤ a := Nat.le_refl a
theorem Bq (B : Nat) (w : World) : Below B w w := Below.refl B w
theorem Wn (w : World) (o : Obj) : (w.alloc o).heap[w.heap.size]? = some o := World.alloc_heap_new w o
theorem Bh (w : World) (a : Addr) (u : Value) (k : Nat) (h : k ≠ a.block) : (w.setCell a u).heap[k]? = w.heap[k]? := Below.heap_setCell w a u k h
theorem Gl {α : Type} {l : Array α} {i : Nat} {x : α} (h : l[i]? = some x) : i < l.size := (Array.getElem?_eq_some_iff.1 h).1
theorem Ai {a b : Prop} (h : a) (k : b) : a ∧ b := ⟨h, k⟩
end
section
open Go
def Tm : List Bool -> Nat
 | [] => 0
 | false :: _ => 0
 | true :: l => Tm l + 1
def nx (l : Array Bool) : Nat := Tm l.toList
def RU : List Oper -> List Bool -> Option Oper
 | o :: _, false :: _ => some o
 | _ :: os, true :: l => RU os l
 | _, _ => none
def J4 : List Oper -> Nat -> Option Oper
 | o :: _, 0 => some o
 | _ :: os, n + 1 => J4 os n
 | _, _ => none
theorem N4 : ∀ (os : List Oper) (n : Nat) (o : Oper), J4 os n = some o -> os[n]? = some o
 | [], n, o, h => by cases n <;> cases h
 | a :: os, 0, o, h => by simpa [J4] using h
 | a :: os, n + 1, o, h => by simpa using N4 os n o h
theorem Pn : ∀ (os : List Oper) (l : List Bool) (o : Oper), RU os l = some o -> os[Tm l]? = some o
 | [], l, o, h => by cases l <;> cases h
 | a :: os, [], o, h => by cases h
 | a :: os, false :: l, o, h => by simpa [RU, Tm] using h
 | a :: os, true :: l, o, h => by simpa [Tm] using Pn os l o h
theorem VL {ops : Array Oper} {l : Array Bool} {o : Oper} (h : RU ops.toList l.toList = some o) : ops[nx l]? = some o := by
 rw [<- Array.getElem?_toList]; exact Pn _ _ _ h
theorem NF {ops : Array Oper} {n : Nat} {o : Oper} (h : J4 ops.toList n = some o) : ops[n]? = some o := by
 rw [<- Array.getElem?_toList]; exact N4 _ _ _ h
theorem gG : (∀ {α : Type} {xs : List α} {i : Nat} (h : i < xs.toArray.size), xs.toArray[i] = xs[i]'(by simpa using h)) /\ (∀ {α : Type} {a : α} {bs : List α} {i : Nat} {h : i + 1 < (a :: bs).length}, (a :: bs)[i + 1] = bs[i]'(Nat.lt_of_succ_lt_succ h)) /\ (∀ {α : Type} {a : α} {bs : List α} {h : 0 < (a :: bs).length}, (a :: bs)[0] = a) :=
 ⟨fun _ => List.getElem_toArray _, List.getElem_cons_succ _ _ _ _, List.getElem_cons_zero _ _ _⟩
theorem gS : (∀ {α : Type} {xs : List α} {i : Nat} (h : i < xs.toArray.size), xs.toArray[i] = xs[i]'(by simpa using h)) /\ (∀ {α : Type} {a : α} {bs : List α} {i : Nat} {h : i + 1 < (a :: bs).length}, (a :: bs)[i + 1] = bs[i]'(Nat.lt_of_succ_lt_succ h)) /\ (∀ {α : Type} {a : α} {bs : List α} {h : 0 < (a :: bs).length}, (a :: bs)[0] = a) ∧
  (∀ (a : Act) (d : Tmp) (v : Value), a.put (some d) v = { a with tmps := a.tmps.setIfInBounds d v }) /\ (∀ (a : Act) (v : Value), a.put none v = a) ∧
  (∀ {α : Type} (l : List α) (i : Nat) (a : α), l.toArray.setIfInBounds i a = (l.set i a).toArray) /\ (∀ {α : Type} {x : α} {xs : List α} {a : α}, (x :: xs).set 0 a = a :: xs) /\ (∀ {α : Type} {x : α} {xs : List α} {n : Nat} {a : α}, (x :: xs).set (n + 1) a = x :: xs.set n a) ∧
  (∀ l : List Bool, nx l.toArray = Tm l) /\ (∀ l : List Bool, Tm (false :: l) = 0) /\ (∀ l : List Bool, Tm (true :: l) = Tm l + 1) :=
 ⟨fun _ => List.getElem_toArray _, List.getElem_cons_succ _ _ _ _, List.getElem_cons_zero _ _ _, fun _ _ _ => rfl, fun _ _ => rfl, fun _ _ _ => List.setIfInBounds_toArray _ _ _, List.set_cons_zero, List.set_cons_succ, fun _ => rfl, fun _ => rfl, fun _ => rfl⟩
theorem gR : (∀ n : Nat, Array.replicate n false = (List.replicate n false).toArray) /\ (∀ n : Nat, List.replicate (n + 1) false = false :: List.replicate n false) /\ List.replicate 0 false = [] := ⟨fun _ => by simp, fun _ => rfl, rfl⟩
section
variable {P : Program} {ops : Array Oper} {Q : Exit -> Act -> World -> Prop} {md : Region.Mode} {S : World -> Prop}
theorem wR (n : Nat) {id : Nat} {a : Act} {w : World} (hn : ops.size = n) (hS : S w.drew) (h : S w.drew -> wpAnyH P .any ops Q S n (Array.replicate n false) a w.drew) (hm : P.follows .mixedOrders = true := by kernel_rfl) : (Code.region id ops true).wp P Q a w :=
 wp_region_held_drew hm hS (by rw [hn]; exact h)
theorem wN {oi : Oper} {v : Value} {fuel : Nat} {listed : Array Bool} {a : Act} {w : World} (hS : S w) (h : wpAnyH P md ops Q S fuel (listed.setIfInBounds (nx listed) true) (a.put oi.dst v) w)
  (hi : RU ops.toList listed.toList = some oi := by exact rfl) (hw : Region.wanted oi (yielded ops a.tmps) = true := by rfl) (hy : ∀ w, S w -> (execOp a.eval oi).run P w = .ok (.value v) w := by intro w hSw; (try dsimp only at hSw); (try simp only [gG]); go_simp; (try with_reducible rfl))
  (hs : Region.noSelect ops = true := by kernel_rfl) (hf : Region.free md ops listed (nx listed) = true := by kernel_rfl) (hr : (Region.ready md ops listed).contains (nx listed) = true := by kernel_rfl)
  (hQ : ∀ c a w, Q (.panic c) (a.put oi.dst v) w -> Q (.panic c) a w := by exact fun _ _ _ h => h) : wpAnyH P md ops Q S (fuel + 1) listed a w :=
 wpAnyH_take (VL hi) hs hf hr hQ (.inl ⟨hw, hy⟩) hS h
theorem wI (i : Nat) {oi : Oper} {v : Value} {fuel : Nat} {listed : Array Bool} {a : Act} {w : World} (hS : S w) (h : wpAnyH P md ops Q S fuel (listed.setIfInBounds i true) (a.put oi.dst v) w)
  (hi : J4 ops.toList i = some oi := by exact rfl) (hw : Region.wanted oi (yielded ops a.tmps) = true := by rfl) (hy : ∀ w, S w -> (execOp a.eval oi).run P w = .ok (.value v) w := by intro w hSw; (try dsimp only at hSw); (try simp only [gG]); go_simp; (try with_reducible rfl))
  (hs : Region.noSelect ops = true := by kernel_rfl) (hf : Region.free md ops listed i = true := by kernel_rfl) (hr : (Region.ready md ops listed).contains i = true := by kernel_rfl)
  (hQ : ∀ c a w, Q (.panic c) (a.put oi.dst v) w -> Q (.panic c) a w := by exact fun _ _ _ h => h) : wpAnyH P md ops Q S (fuel + 1) listed a w :=
 wpAnyH_take (NF hi) hs hf hr hQ (.inl ⟨hw, hy⟩) hS h
theorem wU (i : Nat) {oi : Oper} {fuel : Nat} {listed : Array Bool} {a : Act} {w : World} (hi : ops[i]? = some oi) (hw : Region.wanted oi (yielded ops a.tmps) = false) (hS : S w)
  (h : wpAnyH P md ops Q S fuel (listed.setIfInBounds i true) (a.put oi.dst undef) w) (hs : Region.noSelect ops = true := by kernel_rfl) (hf : Region.free md ops listed i = true := by kernel_rfl) (hr : (Region.ready md ops listed).contains i = true := by kernel_rfl)
  (hQ : ∀ c a w, Q (.panic c) (a.put oi.dst undef) w -> Q (.panic c) a w := by exact fun _ _ _ h => h) : wpAnyH P md ops Q S (fuel + 1) listed a w :=
 wpAnyH_take hi hs hf hr hQ (.inr ⟨hw, rfl⟩) hS h
theorem wB (i : Nat) {o : Oper} {fuel : Nat} {listed : Array Bool} {a : Act} {w : World} (hi : ops[i]? = some o)
  (h : ∀ K' : Act -> World -> Prop, Shut (∀ a w, S w -> (S w -> wpAnyH P md ops Q S fuel (listed.setIfInBounds i true) a w) -> K' a w) -> if Region.wanted o (yielded ops a.tmps) = true then Oper.wp P o a w K' Q else K' (a.put o.dst undef) w)
  (hr : Region.ready md ops listed = [i] := by kernel_rfl) : wpAnyH P md ops Q S (fuel + 1) listed a w :=
 wpAnyH_ready hr (by simp) (AllReadyH.cons hi h AllReadyH.nil)
end
end
section
open Go Go.RowKit
structure Af (C : Nat -> Prop) (B : Nat) (X Y : World) : Prop where
 os : Y.os = X.os
 tape : Y.tape = X.tape
 output : Y.output = X.output
 size : X.heap.size <= Y.heap.size
 block : ∀ (k : Nat) (o : Obj), X.heap[k]? = some o -> ¬ C k -> (k < B \/ o.isCells = true) -> Y.heap[k]? = some o
 kinds : ∀ (k : Nat) (c : Array Value) (e : TypeId) (fz : Nat × Nat), X.heap[k]? = some (.cells c e fz) -> ∃ c' fz', Y.heap[k]? = some (.cells c' e fz')
theorem Af.refl (C : Nat -> Prop) (B : Nat) (X : World) : Af C B X X := ⟨rfl, rfl, rfl, Nat.le_refl _, fun _ _ h _ _ => h, fun _ c _ fz h => ⟨c, fz, h⟩⟩
theorem Af.trans {C : Nat -> Prop} {B : Nat} {X Y Z : World} (h : Af C B X Y) (k : Af C B Y Z) : Af C B X Z :=
 ⟨k.os.trans h.os, k.tape.trans h.tape, k.output.trans h.output, Nat.le_trans h.size k.size, fun i o hi hc ho => k.block i o (h.block i o hi hc ho) hc ho, fun i c e fz hi => by obtain ⟨c', fz', h'⟩ := h.kinds i c e fz hi; exact k.kinds i c' e fz' h'⟩
theorem Af.mono {C : Nat -> Prop} {B B' : Nat} {X Y : World} (h : Af C B X Y) (hb : B' <= B) : Af C B' X Y :=
 ⟨h.os, h.tape, h.output, h.size, fun i o hi hc ho => h.block i o hi hc (ho.imp (fun e => by omega) id), h.kinds⟩
theorem Af.of_below {C : Nat -> Prop} {B : Nat} {X Y : World} (h : Below X.heap.size X Y) : Af C B X Y :=
 ⟨h.os, h.tape, h.output, h.size, fun i _ hi _ _ => (h.block i (Gl hi)).trans hi, fun i c _ fz hi => ⟨c, fz, (h.block i (Gl hi)).trans hi⟩⟩
theorem Af.alloc {C : Nat -> Prop} {B : Nat} (X : World) (o : Obj) : Af C B X (X.alloc o) := Af.of_below ((Bq _ X).alloc Nr o)
theorem Af.putObj {C : Nat -> Prop} {B : Nat} {X : World} {l : Nat} {o : Obj} (o' : Obj) (hl : X.heap[l]? = some o) (hB : B <= l) (ho : o.isCells = false) : Af C B X (X.putObj l o') :=
 ⟨rfl, rfl, rfl, by simp, fun i u hi _ hu => (by
  refine (World.putObj_heap_other ?_).trans hi
  rintro rfl
  rw [hl] at hi; cases hi
  rcases hu with hu | hu
  ·omega
  ·rw [ho] at hu; cases hu), fun i c e fz hi => ⟨c, fz, (World.putObj_heap_other (by rintro rfl; rw [hl] at hi; cases hi; cases ho)).trans hi⟩⟩
theorem Af.setCell {C : Nat -> Prop} {B : Nat} (X : World) (a : Addr) (v : Value) (hC : C a.block) : Af C B X (X.setCell a v) :=
 ⟨rfl, rfl, rfl, by simp [World.setCell], fun i _ hi hc _ => (Bh X a v i (fun e => hc (by rw [e]; exact hC))).trans hi, fun i c e fz hi => by
  by_cases h : i = a.block
  ·subst h
   refine ⟨if a.spot.isSome then c else c.setIfInBounds a.off v, fz, ?_⟩
   show (X.heap.modify a.block _)[a.block]? = _
   rw [Array.getElem?_modify, if_pos rfl, hi]
   rfl
  ·exact ⟨c, fz, (Bh X a v i h).trans hi⟩⟩
theorem Af.heap {C : Nat -> Prop} {B : Nat} {X Y : World} (h : Af C B X Y) {k : Nat} {o : Obj} (hk : X.heap[k]? = some o) (hc : ¬ C k) (ho : o.isCells = true) : Y.heap[k]? = some o := h.block k o hk hc (.inr ho)
theorem Af.old {C : Nat -> Prop} {B : Nat} {X Y : World} (h : Af C B X Y) {k : Nat} {o : Obj} (hk : X.heap[k]? = some o) (hc : ¬ C k) (hB : k < B) : Y.heap[k]? = some o := h.block k o hk hc (.inl hB)
theorem BD {X : World} {k : Nat} {off : Nat} {v : Value} (h : X.cell? ⟨k, off, none⟩ = some v) : ∃ o, X.heap[k]? = some o /\ o.isCells = true := by
 unfold World.cell? at h
 cases hk : X.heap[k]? with
 | none => simp [hk] at h
 | some o =>
  rw [hk] at h
  cases o <;> first | exact ⟨_, rfl, rfl⟩ | (simp at h)
theorem Af.cell {C : Nat -> Prop} {B : Nat} {X Y : World} (h : Af C B X Y) {k off : Nat} {v : Value} (hk : X.cell? ⟨k, off, none⟩ = some v) (hc : ¬ C k) : Y.cell? ⟨k, off, none⟩ = some v := by
 obtain ⟨o, ho, hco⟩ := BD hk
 exact (World.cell?_of_block (w := X) (a := ⟨k, off, none⟩) ((h.heap ho hc hco).trans ho.symm)).trans hk
theorem Af.frozen {C : Nat -> Prop} {B : Nat} {X Y : World} (h : Af C B X Y) {k off : Nat} {v : Value} {b : Bool} (hk : X.cell? ⟨k, off, none⟩ = some v) (hf : X.frozen? ⟨k, off, none⟩ = b) (hc : ¬ C k) : Y.frozen? ⟨k, off, none⟩ = b := by
 obtain ⟨o, ho, hco⟩ := BD hk
 exact (World.frozen?_of_block (w := X) (a := ⟨k, off, none⟩) ((h.heap ho hc hco).trans ho.symm)).trans hf
theorem Af.below {C : Nat -> Prop} {B n : Nat} {X Y w : World} (h : Af C B X Y) (hb : Below n w X) (hC : ∀ k, C k -> n <= k) (hB : n <= B) (hn : n <= w.heap.size) : Below n w Y :=
 ⟨h.os.trans hb.os, h.tape.trans hb.tape, h.output.trans hb.output, Nat.le_trans hb.size h.size, fun k hk => by
  have hlt : k < X.heap.size := Nat.lt_of_lt_of_le hk (Nat.le_trans hn hb.size)
  have hX : X.heap[k]? = some X.heap[k] := Array.getElem?_eq_getElem hlt
  exact ((h.old hX (fun hc => by have := hC k hc; omega) (by omega)).trans hX.symm).trans (hb.block k hk)⟩
structure Ag (p : Obj -> Bool) (C : Nat -> Prop) (n₀ : Nat) (X Y : World) : Prop where
 os : Y.os = X.os
 tape : Y.tape = X.tape
 output : Y.output = X.output
 size : X.heap.size <= Y.heap.size
 block : ∀ (k : Nat) (o : Obj), X.heap[k]? = some o -> (k < n₀ \/ C k \/ p o = true) -> Y.heap[k]? = some o
def Av (o : Obj) : Bool := !o.isCells
theorem Ag.refl (p : Obj -> Bool) (C : Nat -> Prop) (n₀ : Nat) (X : World) : Ag p C n₀ X X := ⟨rfl, rfl, rfl, Nat.le_refl _, fun _ _ h _ => h⟩
theorem Ag.trans {p : Obj -> Bool} {C : Nat -> Prop} {n₀ : Nat} {X Y Z : World} (h : Ag p C n₀ X Y) (k : Ag p C n₀ Y Z) : Ag p C n₀ X Z :=
 ⟨k.os.trans h.os, k.tape.trans h.tape, k.output.trans h.output, Nat.le_trans h.size k.size, fun i o hi ho => k.block i o (h.block i o hi ho) ho⟩
theorem Ag.of_below {p : Obj -> Bool} {C : Nat -> Prop} {n₀ : Nat} {X Y : World} (h : Below X.heap.size X Y) : Ag p C n₀ X Y :=
 ⟨h.os, h.tape, h.output, h.size, fun i _ hi _ => (h.block i (Gl hi)).trans hi⟩
theorem Ag.alloc {p : Obj -> Bool} {C : Nat -> Prop} {n₀ : Nat} (X : World) (o : Obj) : Ag p C n₀ X (X.alloc o) := Ag.of_below ((Bq _ X).alloc Nr o)
theorem Ag.drew {p : Obj -> Bool} {C : Nat -> Prop} {n₀ : Nat} (X : World) : Ag p C n₀ X X.drew := Ag.of_below ((Bq _ X).drew)
theorem Ag.walks {C : Nat -> Prop} {n₀ : Nat} {X Y : World} (h : Ag Av C n₀ X Y) : Ag Obj.isWalk C n₀ X Y :=
 ⟨h.os, h.tape, h.output, h.size, fun i o hi ho => h.block i o hi (ho.imp id (fun k => k.imp id (fun hw => by simp [Av, Obj.not_cells_of_walk hw])))⟩
theorem Ag.putObj {C : Nat -> Prop} {n₀ : Nat} {X : World} {l : Nat} {o : Obj} (o' : Obj) (hl : X.heap[l]? = some o) (hB : n₀ <= l) (hC : ¬ C l) (ho : o.isWalk = false) : Ag Obj.isWalk C n₀ X (X.putObj l o') :=
 ⟨rfl, rfl, rfl, by simp, fun i u hi hu => by
  refine (World.putObj_heap_other ?_).trans hi
  rintro rfl
  rw [hl] at hi; cases hi
  rcases hu with hu | hu | hu
  ·omega
  ·exact hC hu
  ·rw [ho] at hu; cases hu⟩
theorem Ag.setCell {C : Nat -> Prop} {n₀ : Nat} (X : World) (a : Addr) (v : Value) (hB : n₀ <= a.block) (hC : ¬ C a.block) : Ag Av C n₀ X (X.setCell a v) :=
 ⟨rfl, rfl, rfl, by simp [World.setCell], fun i u hi hu => by
  by_cases e : i = a.block
  ·subst e
   rcases hu with hu | hu | hu
   ·omega
   ·exact absurd hu hC
   ·exact (KeepsOthers.setCell X a v).same _ _ hi (by simpa [Av] using hu)
  ·exact (Bh X a v i e).trans hi⟩
theorem Ag.grown {C : Nat -> Prop} {n₀ : Nat} {X Y : World} {row : Option Nat} (hg : X.grownBy Y row) (hr : ∀ k, row = some k -> n₀ <= k /\ ¬ C k /\ ∀ o, X.heap[k]? = some o -> o.isCells = true) : Ag Av C n₀ X Y :=
 ⟨hg.os, hg.tape, hg.output, hg.size, fun i o hi ho => by
  refine (hg.block i (Gl hi) ?_).trans hi
  rintro e
  obtain ⟨h1, h2, h3⟩ := hr i e.symm
  rcases ho with ho | ho | ho
  ·omega
  ·exact h2 ho
  ·rw [Av, h3 o hi] at ho; cases ho⟩
theorem Ag.below {p : Obj -> Bool} {C : Nat -> Prop} {n₀ n : Nat} {X Y w : World} (h : Ag p C n₀ X Y) (hb : Below n w X) (hn0 : n <= n₀) (hn : n <= w.heap.size) : Below n w Y :=
 ⟨h.os.trans hb.os, h.tape.trans hb.tape, h.output.trans hb.output, Nat.le_trans hb.size h.size, fun k hk => by
  have hlt : k < X.heap.size := Nat.lt_of_lt_of_le hk (Nat.le_trans hn hb.size)
  have hX : X.heap[k]? = some X.heap[k] := Array.getElem?_eq_getElem hlt
  exact ((h.block k _ hX (.inl (by omega))).trans hX.symm).trans (hb.block k hk)⟩
theorem Ag.heap {p : Obj -> Bool} {C : Nat -> Prop} {n₀ : Nat} {X Y : World} (h : Ag p C n₀ X Y) {k : Nat} {o : Obj} (hk : X.heap[k]? = some o) (ho : k < n₀ \/ C k \/ p o = true) : Y.heap[k]? = some o := h.block k o hk ho
theorem Ag.cell {p : Obj -> Bool} {C : Nat -> Prop} {n₀ : Nat} {X Y : World} (h : Ag p C n₀ X Y) {k off : Nat} {v : Value} (hk : X.cell? ⟨k, off, none⟩ = some v) (hc : k < n₀ \/ C k) : Y.cell? ⟨k, off, none⟩ = some v := by
 obtain ⟨o, ho, hco⟩ := BD hk
 exact (World.cell?_of_block (w := X) (a := ⟨k, off, none⟩) ((h.heap ho (hc.imp id .inl)).trans ho.symm)).trans hk
theorem Ag.frozen {p : Obj -> Bool} {C : Nat -> Prop} {n₀ : Nat} {X Y : World} (h : Ag p C n₀ X Y) {k off : Nat} {v : Value} {b : Bool} (hk : X.cell? ⟨k, off, none⟩ = some v) (hf : X.frozen? ⟨k, off, none⟩ = b) (hc : k < n₀ \/ C k) : Y.frozen? ⟨k, off, none⟩ = b := by
 obtain ⟨o, ho, hco⟩ := BD hk
 exact (World.frozen?_of_block (w := X) (a := ⟨k, off, none⟩) ((h.heap ho (hc.imp id .inl)).trans ho.symm)).trans hf
theorem Ah {C : Nat -> Prop} {B : Nat} {X Y : World} {k : Nat} {t : TypeId} {v : Value} (h : Boxed X k t v) (ht : Af C B X Y) (hc : ¬ C k) : Boxed Y k t v := ht.heap h hc rfl
theorem Ac {X Y : World} {k : Nat} {t : TypeId} {v : Value} (h : Boxed X k t v) (hb : Below X.heap.size X Y) : Boxed Y k t v := (hb.block k h.lt).trans h
theorem Am {p : Obj -> Bool} {C : Nat -> Prop} {n₀ : Nat} {X Y : World} {k : Nat} {t : TypeId} {v : Value} (h : Boxed X k t v) (hk : Ag p C n₀ X Y) (hc : k < n₀ \/ C k) : Boxed Y k t v := hk.heap h (hc.imp id .inl)
theorem Ar {X : World} {D k : Nat} {t : TypeId} {v : Value} {ds : List Deferred} (h : Boxed X k t v) (hD : X.heap[D]? = some (.deferred (some ds))) (o : Obj) : Boxed (X.putObj D o) k t v :=
 (World.putObj_heap_other (fun e => by subst e; rw [show X.heap[k]? = _ from h] at hD; cases hD)).trans h
theorem Cp {n D : Nat} {w X : World} {ds : List Deferred} (h : Below n w X) (hD : X.heap[D]? = some (.deferred (some ds))) (hn : n <= w.heap.size) (hl : n <= D) (o : Obj) : Below n w (X.putObj D o) :=
 Af.below (C := fun _ => False) (B := D) (Af.putObj o hD Nr rfl) h (fun _ hc => hc.elim) hl hn
def TK {α : Type} (P : Program) (gf : Nat) (lb : Array Value) (encs : α -> Array Value) (C : Nat -> Prop) (n₀ : Nat) (xs : List α) (St : World -> Prop) : Prop :=
 ∀ (l : Nat) (J Jx : List α -> World -> Prop) (W : World), St W -> (∀ s X Y, J s X -> Af C W.heap.size X Y -> J s Y) -> (∀ s X Y, Jx s X -> Af C W.heap.size X Y -> Jx s Y) →
  (∀ pre x W1, J pre W1 -> pre ++ [x] <+: xs -> YieldAt Fence.wide 0 P l (encs x) W1 fun e W' =>
   (e = .returned (.bool true) /\ J (pre ++ [x]) W' /\ Ag Obj.isWalk C n₀ W1 W') \/ (e = .returned (.bool false) /\ Jx (pre ++ [x]) W' /\ Ag Obj.isWalk C n₀ W1 W')) →
  J [] W →
  CallsIn Fence.wide 0 P gf (#[.func (.yield l) #[] #[]] ++ lb) W fun e W' => (∃ v, e = .returned v) /\ (J xs W' \/ ∃ pre, pre <+: xs /\ Jx pre W')
def RH {α : Type} (C : Nat -> Prop) (n₀ : Nat) (I : List α -> World -> Prop) (Ix : Code -> List α -> World -> Prop) (s : List α) (W : World) : Exit -> Act -> World -> Prop
 | .normal, _, W' => Ag Av C n₀ W W' /\ I s W'
 | .ret, _, W' => Ag Av C n₀ W W' /\ Ix .ret s W'
 | .exit id, _, W' => Ag Av C n₀ W W' /\ Ix (.exit id) s W'
 | .goto t, _, W' => Ag Av C n₀ W W' /\ Ix (.goto t) s W'
 | .panic _, _, _ => False
 | .outgrown, _, _ => False
variable {P : Program}
theorem Dm {α : Type} {g : Operand} {ps : Array Tmp} {assign body : Code} {Q : Exit -> Act -> World -> Prop} {a : Act} {w : World}
  {gf : Nat} {lb : Array Value} (hg : a.eval g = .func (.func gf) #[] lb) (eg : ∀ args w, (callFunc gf args).run P w = .ok (.enter gf args) w)
  {encs : α -> Array Value} {C : Nat -> Prop} {n₀ : Nat} {xs : List α} {St : World -> Prop} (hseq : TK P gf lb encs C n₀ xs St)
  (hst : ∀ Y, Below w.heap.size w Y -> St Y) (hC : ∀ k, C k -> k < w.heap.size) (hn : n₀ <= w.heap.size) (hps : ∀ x, (encs x).size = ps.size)
  (I : List α -> World -> Prop) (Ix : Code -> List α -> World -> Prop) (hI : ∀ s X Y, I s X -> Af C w.heap.size X Y -> I s Y) (hIx : ∀ c s X Y, Ix c s X -> Af C w.heap.size X Y -> Ix c s Y) (h0 : I [] w)
  (hround : ∀ (l : Nat) (pre : List α) (x : α) (W : World), w.heap.size <= l -> I pre W -> pre ++ [x] <+: xs →
   assign.wpIn (Fence.wide.inRound l) 0 P (Exit.then (fun a' W' => Ag Av C n₀ W W' /\ ∀ Wb, Af C w.heap.size W' Wb -> (∃ r, Wb.heap[l]? = some (.loop r)) -> body.wpIn (Fence.wide.inRound l) 0 P (RH C n₀ I Ix (pre ++ [x]) Wb) a' Wb) (fun _ _ _ => False))
    { tmps := (ps.zip (encs x)).foldl (fun t (p, v) => t.setIfInBounds p v) a.tmps, defers := [] } W)
  (hdone : ∀ (D : Nat) (W : World), w.heap.size <= D -> I xs W -> W.heap[D]? = some (.deferred (some [])) -> Q .normal { a with defers := { target := .collected D, args := #[] } :: a.defers } W)
  (hstop : ∀ (D : Nat) (c : Code) (pre : List α) (W : World), w.heap.size <= D -> pre <+: xs -> Ix c pre W -> W.heap[D]? = some (.deferred (some [])) -> c.wpIn Fence.wide 0 P Q { a with defers := { target := .collected D, args := #[] } :: a.defers } W) :
  (Code.rangeFunc g ps assign body).wpIn Fence.wide 0 P Q a w := by
 refine wpIn_rangeFunc (fun fn hfn => ?_)
 obtain ⟨rec, hrec⟩ : ∃ rec : LoopState -> Option Code -> Loop, rec = fun st pe => { state := st, pending := pe, fn, tmps := a.tmps, params := ps, assign, body, defers := w.heap.size } := ⟨_, rfl⟩
 obtain ⟨W1, hW1⟩ : ∃ W1, (w.alloc (.deferred (some []))).alloc (.loop (rec .ready none)) = W1 := ⟨_, rfl⟩
 have hz1 : W1.heap.size = w.heap.size + 1 + 1 := by rw [<- hW1]; simp
 have hL1 : W1.heap[w.heap.size + 1]? = some (.loop (rec .ready none)) := by
  rw [<- hW1]; have := Wn (w.alloc (.deferred (some []))) (.loop (rec .ready none)); rwa [World.size_alloc] at this
 have hD1 : W1.heap[w.heap.size]? = some (.deferred (some [])) := by
  rw [<- hW1]; exact (Below.heap_alloc _ _ _ (by simp)).trans (Wn w _)
 have hB1 : Below w.heap.size w W1 := by
  rw [<- hW1]; exact ((Bq _ w).alloc Nr _).alloc (by simp) _
 have hI1 : I [] W1 := by rw [<- hW1]; exact hI _ _ _ (hI _ _ _ h0 (Af.alloc _ _)) (Af.alloc _ _)
 have hCl : ¬ C (w.heap.size + 1) := fun h => by have := hC _ h; omega
 have hCD : ¬ C w.heap.size := fun h => by have := hC _ h; omega
 refine ⟨w.heap.size + 1, [{ target := .collected w.heap.size, args := #[] }], W1, { target := .fn (.func gf) lb, args := #[.func (.yield (w.heap.size + 1)) #[] #[]] }, W1, gf,
  #[.func (.yield (w.heap.size + 1)) #[] #[]] ++ lb, W1, ?_, ?_, ?_, ?_, fun h => by simp [Fence.wide] at h, ?_⟩
 ·rw [<- hW1, hrec]; exact run_enterLoop_outer _ _ _ _ _
 ·simp only [resolve, hg]
  simp [go_sem]
 ·intro f' _; trivial
 ·simp [invoke, go_sem, eg]
 refine (hseq (w.heap.size + 1)
  (fun pre W => I pre W /\ W.heap[w.heap.size + 1]? = some (.loop (rec .ready none)) /\ W.heap[w.heap.size]? = some (.deferred (some [])))
  (fun pre W => ∃ c, Ix c pre W /\ W.heap[w.heap.size + 1]? = some (.loop (rec .done (some c))) /\ W.heap[w.heap.size]? = some (.deferred (some [])))
  W1 (hst _ hB1)
  (fun s X Y hs ht => ⟨hI _ _ _ hs.1 (ht.mono (by omega)), ht.old hs.2.1 hCl (by omega), ht.old hs.2.2 hCD (by omega)⟩)
  (fun s X Y hs ht => by
   obtain ⟨c, hc, hl, hk⟩ := hs
   exact ⟨c, hIx _ _ _ _ hc (ht.mono (by omega)), ht.old hl hCl (by omega), ht.old hk hCD (by omega)⟩)
  ?_ ⟨hI1, hL1, hD1⟩).mono ?_
 ·rintro pre x W ⟨hi, hl, hk⟩ hpre
  have hy := run_yield (P := P) (args := encs x) hl (by rw [hrec]; exact hps x)
  rw [hrec] at hy
  refine ⟨fn, _, assign, body, hy, roundIn_of_wpIn hfn (wpIn_mono (hround _ pre x W (by omega) hi hpre) ?_)⟩
  clear hy
  intro e0 a' Wa he0
  cases e0 with
  | normal => ?_
  | _ => exact he0.elim
  obtain ⟨hka, hbd⟩ := he0
  have hla : Wa.heap[w.heap.size + 1]? = some (.loop (rec .ready none)) := hka.heap hl (.inr (.inr rfl))
  have hDa : Wa.heap[w.heap.size]? = some (.deferred (some [])) := hka.heap hk (.inr (.inr rfl))
  have hlt : w.heap.size + 1 < Wa.heap.size := (Gl hla)
  refine ⟨_, run_beginRound hla (by rw [hrec]), ?_⟩
  obtain ⟨Wb, hWb⟩ : ∃ Wb, Wa.putObj (w.heap.size + 1) (.loop { rec .ready none with state := .busy }) = Wb := ⟨_, rfl⟩
  have hl2 : Wb.heap[w.heap.size + 1]? = some (.loop { rec .ready none with state := .busy }) := by rw [<- hWb]; exact World.putObj_heap_same hlt
  have hD2 : Wb.heap[w.heap.size]? = some (.deferred (some [])) := by rw [<- hWb]; exact (World.putObj_heap_other (by omega)).trans hDa
  have hk2 : Ag Obj.isWalk C n₀ Wa Wb := by rw [<- hWb]; exact Ag.putObj _ hla (by omega) hCl rfl
  have hta : Af C w.heap.size Wa Wb := by rw [<- hWb]; exact Af.putObj _ hla (by omega) rfl
  rw [hWb]
  refine wpIn_mono (hbd Wb hta ⟨_, hl2⟩) ?_
  have fin : ∀ (jump : Option Code) (W3 : World), Ag Av C n₀ Wb W3 →
    (Instr.endRound (w.heap.size + 1) jump).run P W3 = .ok (.bool jump.isNone) (W3.putObj (w.heap.size + 1) (.loop (rec (if jump.isNone then .ready else .done) jump))) ∧
    (W3.putObj (w.heap.size + 1) (.loop (rec (if jump.isNone then .ready else .done) jump))).heap[w.heap.size + 1]? = some (.loop (rec (if jump.isNone then .ready else .done) jump)) ∧
    (W3.putObj (w.heap.size + 1) (.loop (rec (if jump.isNone then .ready else .done) jump))).heap[w.heap.size]? = some (.deferred (some [])) ∧
    Af C w.heap.size W3 (W3.putObj (w.heap.size + 1) (.loop (rec (if jump.isNone then .ready else .done) jump))) ∧
    Ag Obj.isWalk C n₀ W3 (W3.putObj (w.heap.size + 1) (.loop (rec (if jump.isNone then .ready else .done) jump))) := fun jump W3 hk3 => by
   have hl3 : W3.heap[w.heap.size + 1]? = some (.loop { rec .ready none with state := .busy }) := hk3.heap hl2 (.inr (.inr rfl))
   have hD3 : W3.heap[w.heap.size]? = some (.deferred (some [])) := hk3.heap hD2 (.inr (.inr rfl))
   have hr := run_endRound (P := P) jump hl3
   rw [hrec] at hr |-
   exact ⟨hr, World.putObj_heap_same (Gl hl3), (World.putObj_heap_other (by omega)).trans hD3, Af.putObj _ hl3 (by omega) rfl, Ag.putObj _ hl3 (by omega) hCl rfl⟩
  rintro e a3 W3 hp
  cases e with
  | normal =>
   obtain ⟨hr, hl4, hD4, ht4, hk4⟩ := fin none W3 hp.1
   exact ⟨_, _, hr, .inl ⟨rfl, ⟨hI _ _ _ hp.2 ht4, hl4, hD4⟩, ((hka.walks.trans hk2).trans hp.1.walks).trans hk4⟩⟩
  | ret =>
   obtain ⟨hr, hl4, hD4, ht4, hk4⟩ := fin (some .ret) W3 hp.1
   exact ⟨_, _, hr, .inr ⟨rfl, ⟨.ret, hIx _ _ _ _ hp.2 ht4, hl4, hD4⟩, ((hka.walks.trans hk2).trans hp.1.walks).trans hk4⟩⟩
  | exit id =>
   obtain ⟨hr, hl4, hD4, ht4, hk4⟩ := fin (some (.exit id)) W3 hp.1
   exact ⟨_, _, hr, .inr ⟨rfl, ⟨.exit id, hIx _ _ _ _ hp.2 ht4, hl4, hD4⟩, ((hka.walks.trans hk2).trans hp.1.walks).trans hk4⟩⟩
  | goto t =>
   obtain ⟨hr, hl4, hD4, ht4, hk4⟩ := fin (some (.goto t)) W3 hp.1
   exact ⟨_, _, hr, .inr ⟨rfl, ⟨.goto t, hIx _ _ _ _ hp.2 ht4, hl4, hD4⟩, ((hka.walks.trans hk2).trans hp.1.walks).trans hk4⟩⟩
  | panic ch => exact hp.elim
  | outgrown => exact hp.elim
 ·rintro e W2 ⟨⟨v, rfl⟩, (⟨hi, hl, hk⟩ | ⟨pre, hpre, c, hi, hl, hk⟩)⟩
  ·refine ⟨none, _, by have := run_endLoop (P := P) hl (by rw [hrec]; simp); rw [hrec] at this; exact this, hdone _ _ Nr (hI _ _ _ hi (Af.putObj _ hl (by omega) rfl)) ((World.putObj_heap_other (by omega)).trans hk)⟩
  ·refine ⟨some c, _, by have := run_endLoop (P := P) hl (by rw [hrec]; simp); rw [hrec] at this; exact this, hstop _ c pre _ Nr hpre (hIx _ _ _ _ hi (Af.putObj _ hl (by omega) rfl)) ((World.putObj_heap_other (by omega)).trans hk)⟩
#print axioms Dm
end
section
open Go Go.RowKit
theorem hid {p : Prop} (h : p) : RowKit.Hid p := h
theorem CA (f : FuncId) : Fence.wide.fn f = True := rfl
theorem B0 : Fence.wide.depth = none := rfl
theorem Az {w : World} {b : Nat} {t : TypeId} {v0 v1 v2 : Value} (h : w.heap[b]? = some (.cells #[v0, v1, v2] t)) :
  w.cell? ⟨b, 0, none⟩ = some v0 /\ w.cell? ⟨b, 1, none⟩ = some v1 /\ w.cell? ⟨b, 2, none⟩ = some v2 /\ w.frozen? ⟨b, 0, none⟩ = false /\ w.frozen? ⟨b, 1, none⟩ = false /\ w.frozen? ⟨b, 2, none⟩ = false := by
 simp [World.cell?, World.frozen?, h]
theorem Jq (w : World) (o : Obj) {w' : World} (hb : Below (w.alloc o).heap.size (w.alloc o) w') : w'.heap[w.heap.size]? = some o :=
 (hb.block _ (by simp)).trans (Wn w o)
theorem Aa {w w' : World} {k : Nat} {o : Obj} (h : w.heap[k]? = some o) (hb : Below w.heap.size w w') : w'.heap[k]? = some o :=
 (hb.block k (Gl h)).trans h
structure Bz (w : World) : Prop where
 sz : 6 < w.heap.size
 u8 : Lib.Utf8Tabs 1 2 w
 pow : Lib.TabIs Tryz.prog w "internal/strconv.uint64pow10" .u64 Lib.pow10Tab
 syn : ∃ te pe, w.cell? ⟨4, 0, none⟩ = some (.iface te pe)
 rng : ∃ te pe, w.cell? ⟨5, 0, none⟩ = some (.iface te pe)
theorem AS {w : World} {k o : Nat} {v : Value} (h : w.cell? ⟨k, o, none⟩ = some v) : k < w.heap.size := by
 obtain ⟨x, hx, _⟩ := BD h
 exact (Gl hx)
theorem Ab {w w' : World} {k o : Nat} {v : Value} (h : w.cell? ⟨k, o, none⟩ = some v) (hb : Below w.heap.size w w') : w'.cell? ⟨k, o, none⟩ = some v :=
 (hb.cell (p := ⟨k, o, none⟩) (AS h)).trans h
theorem GH {w w' : World} {k o : Nat} {v : Value} {b : Bool} (h : w.cell? ⟨k, o, none⟩ = some v) (hf : w.frozen? ⟨k, o, none⟩ = b) (hb : Below w.heap.size w w') : w'.frozen? ⟨k, o, none⟩ = b :=
 (hb.frozen (p := ⟨k, o, none⟩) (AS h)).trans hf
theorem Bz.below {w w' : World} (h : Bz w) (hb : Below w.heap.size w w') : Bz w' := by
 refine ⟨Nat.lt_of_lt_of_le h.sz hb.size, ⟨fun c hc => Ab (h.u8.1 c hc) hb, fun i hi => ⟨Ab (h.u8.2 i hi).1 hb, Ab (h.u8.2 i hi).2 hb⟩⟩, ?_, ?_, ?_⟩
 ·exact var?_below (g := 6) hb (by kernel_rfl) h.sz h.pow
 ·obtain ⟨te, pe, hc⟩ := h.syn; exact ⟨te, pe, Ab hc hb⟩
 ·obtain ⟨te, pe, hc⟩ := h.rng; exact ⟨te, pe, Ab hc hb⟩
end
end Go.Proofs.YtaogfdffgdglkaaGreatDoor
