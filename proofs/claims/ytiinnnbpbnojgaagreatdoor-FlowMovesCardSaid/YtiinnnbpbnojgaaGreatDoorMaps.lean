/- What is proved: maps that a call makes, as lists of keys and values; no program stands in it. -/
import Derived.MapKept
import Derived.RangeFuncRecord
namespace Go.Proofs.YtiinnnbpbnojgaaGreatDoor
open Go Go.MapKept

/-- A map's block, whose entries were laid in the list's order. -/
def mapObj {α : Type} (enc : α → Value) (l : List (α × Value)) : Obj := .map (l.zipIdx.map fun p => { key := enc p.1.1, val := p.1.2, born := p.2 }).toArray l.length
/-- What a list of keys and values says of a key, and at which place. -/
def findL {α : Type} [BEq α] (a : α) : List (α × Value) → Nat → Option (Nat × Value)
  | [], _ => none
  | p :: l, i => if a == p.1 then some (i, p.2) else findL a l (i + 1)
def assoc {α : Type} [BEq α] (a : α) : List (α × Value) → Option Value
  | [] => none
  | p :: l => if a == p.1 then some p.2 else assoc a l
theorem findL_assoc {α : Type} [BEq α] (a : α) : ∀ (l : List (α × Value)) (i : Nat), (findL a l i).map (·.2) = assoc a l
  | [], _ => rfl
  | p :: l, i => by
    unfold findL assoc
    split
    · rfl
    · exact findL_assoc a l (i + 1)
theorem findL_none {α : Type} [BEq α] {a : α} {l : List (α × Value)} {i : Nat} (h : assoc a l = none) : findL a l i = none := by
  have := findL_assoc a l i
  rw [h] at this
  simpa using this

section
variable {α : Type} [BEq α] {enc : α → Value} {kind : TypeDesc} (hsame : ∀ a b, Instr.sameNow kind (enc a) (enc b) = some (a == b)) (hkey : ∀ a, IsKey kind (enc a))
include hsame
theorem findNow_list (a : α) : ∀ (l : List (α × Value)) (n i : Nat), Instr.findNow kind (enc a) ((l.zipIdx n).map fun p => { key := enc p.1.1, val := p.1.2, born := p.2 }) i = some (findL a l i)
  | [], _, _ => rfl
  | p :: l, n, i => by
    simp only [List.zipIdx_cons, List.map_cons, Instr.findNow, hsame, findL]
    cases h : a == p.1
    · simp [findNow_list a l (n + 1) (i + 1)]
    · simp

include hkey
variable {P : Program} {w : World} {t k e : TypeId}
/-- A look-up, with its second answer. -/
theorem run_lookup_list (ht : P.underlying t = some (.map k e)) (hk : P.underlying k = some kind) {z : Value} (hz : (zeroValue e).run P w = .ok z w) {b : Nat} {l : List (α × Value)} (hb : w.heap[b]? = some (mapObj enc l)) (a : α) (ok : Bool) :
    (Instr.lookup t (.map (some b)) (enc a) ok).run P w = .ok (if ok then .tuple #[(assoc a l).getD z, .bool (assoc a l).isSome] else (assoc a l).getD z) w := by
  have hf := run_findKey (w := w) hk (findNow_list hsame a l 0 0)
  have hc := fun em => run_checkKey (w := w) hk (hkey a) em 9999
  have hf2 := findL_assoc a l 0
  unfold Instr.lookup
  simp only [Sem.run_bind, run_underlying ht, Result.andThen, run_getObj_map (show w.heap[b]? = some (.map _ _) from hb), Sem.run_pure, hc, hf]
  cases hfl : findL a l 0 with
  | none => rw [hfl] at hf2; cases ok <;> simp [hz, ← hf2, Result.andThen]
  | some q => rw [hfl] at hf2; cases ok <;> simp [← hf2]
/-- A store under a key that is not there yet. -/
theorem run_put_list (ht : P.underlying t = some (.map k e)) (hk : P.underlying k = some kind) {b : Nat} {l : List (α × Value)} (hb : w.heap[b]? = some (mapObj enc l)) (a : α) (v : Value) (hno : assoc a l = none) :
    (Instr.mapUpdate t (.map (some b)) (enc a) v).run P w = .ok () (w.putObj b (mapObj enc (l ++ [(a, v)]))) := by
  have hf := run_findKey (w := w) hk (findNow_list hsame a l 0 0)
  have hc := run_checkKey (w := w) hk (hkey a) false 9999
  rw [findL_none hno] at hf
  unfold Instr.mapUpdate
  simp only [Sem.run_bind, run_underlying ht, Result.andThen, run_getObj_map (show w.heap[b]? = some (.map _ _) from hb), hc, hf]
  rw [run_setObj_map _ (show w.heap[b]? = some (.map _ _) from hb)]
  simp [World.putObj, mapObj, List.zipIdx_append]
end

/-- Strings as keys. -/
theorem sameS (a b : ByteArray) : Instr.sameNow .string (.string a) (.string b) = some (a == b) := rfl
theorem isKeyS (a : ByteArray) : IsKey .string (.string a) := trivial
theorem putObj_new (w : World) (o o' : Obj) : (w.alloc o).putObj w.heap.size o' = w.alloc o' := by
  have h : (w.heap.push o).setIfInBounds w.heap.size o' = w.heap.push o' := by
    refine Array.ext (by simp) (fun i h1 h2 => ?_)
    rw [Array.getElem_setIfInBounds, Array.getElem_push]
    · split
      · rename_i h3; subst h3; simp
      · rename_i h3
        have h4 : i < w.heap.size := by simp at h2; omega
        rw [dif_pos h4, Array.getElem_push, dif_pos h4]
    · simpa using h2
  show ({ w with heap := (w.heap.push o).setIfInBounds w.heap.size o' } : World) = { w with heap := w.heap.push o' }
  rw [h]
end Go.Proofs.YtiinnnbpbnojgaaGreatDoor
