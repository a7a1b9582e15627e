/- What is proved: a step of a range over a map, whichever entry the draw takes, with all of the world told. No program stands in it. -/
import Derived.Test.YtiinnnbpbnojgaaGreatDoorMaps
import Derived.Laws.IdiomRangeMap
namespace Go.Proofs.YtiinnnbpbnojgaaGreatDoor
open Go
section
variable {P : Program}

theorem next_map_drew (w : World) (ty : TypeId) (bm since c0 : Nat) (seen : Array Nat) (es : Array MapEntry) (clock : Nat) (hb : w.heap[bm]? = some (.map es clock)) (hold : ∀ x ∈ es.toList, x.born < since) (hsc : since ≤ c0) :
    ((leftOf es seen).size = 0 ∧ (Instr.next (.pointer (some ⟨w.heap.size, 0, none⟩)) false ty).run P (w.alloc (.mapIter (some bm) since seen c0)) = .ok (.tuple #[.bool false]) (w.alloc (.mapIter (some bm) since seen c0))) ∨
    ∃ e ∈ (leftOf es seen).toList, ∃ w1 : World, (w1 = w ∨ w1 = w.drew) ∧ (Instr.next (.pointer (some ⟨w.heap.size, 0, none⟩)) false ty).run P (w.alloc (.mapIter (some bm) since seen c0)) = .ok (.tuple #[.bool true, e.key, e.val]) (w1.alloc (.mapIter (some bm) since (seen.push e.born) clock)) := by
  have hlt : bm < w.heap.size := by
    rcases Nat.lt_or_ge bm w.heap.size with h | h
    · exact h
    · simp [Array.getElem?_eq_none h] at hb
  have hb' : (w.alloc (.mapIter (some bm) since seen c0)).heap[bm]? = some (.map es clock) := by rw [heap_alloc_old w _ hlt, hb]
  simp only [Instr.next, getObj, Sem.run_bind, Sem.run, heap_alloc_new, hb', Result.andThen, next_test_false seen es since c0 hold hsc, Bool.false_eq_true, if_false]
  unfold leftOf
  have hmem : ∀ x ∈ (Array.filter (fun e => !seen.contains e.born) es).toList, x.born < since := fun x hx => hold x (by simp at hx ⊢; exact hx.1)
  generalize Array.filter (fun e => !seen.contains e.born) es = L at hmem ⊢
  have e1 : L.filter (fun x => decide (x.born < since)) = L := Array.filter_eq_self.2 (fun x hx => by simpa using hmem x (by simpa using hx))
  have e2 : L.filter (fun x => decide (x.born ≥ since)) = #[] := by
    rw [Array.filter_eq_empty_iff]
    intro x hx
    have := hmem x (by simpa using hx)
    simp
    omega
  simp only [e1, e2, Array.append_empty]
  by_cases h0 : L.size = 0
  · left
    have : L = #[] := Array.eq_empty_of_size_eq_zero h0
    subst this
    refine ⟨rfl, ?_⟩
    simp [choose, Sem.run, Question.forced]
  · right
    have hne : L.isEmpty = false := by simp [Array.isEmpty, h0]
    simp only [hne, Bool.false_eq_true, if_false, Array.empty_append, Array.size_map]
    have hch : ∃ (j : Nat) (w1 : World), j < L.size ∧ (w1 = w ∨ w1 = w.drew) ∧ (choose (Question.mapNext L.size)).run P (w.alloc (.mapIter (some bm) since seen c0)) = .ok j (w1.alloc (.mapIter (some bm) since seen c0)) := by
      by_cases hf : L.size ≤ 1
      · exact ⟨0, w, by omega, .inl rfl, by simp [choose, Sem.run, Question.forced, hf]⟩
      · exact ⟨_, w.drew, Nat.mod_lt _ (by omega), .inr rfl, by
          simp only [choose, Sem.run, Question.forced, decide_eq_true_eq, hf, if_false, Question.cut]
          rfl⟩
    obtain ⟨j, w1, hj, hal, hrun⟩ := hch
    refine ⟨L[j], by simp, w1, hal, ?_⟩
    have hsz : w1.heap.size = w.heap.size := by rcases hal with rfl | rfl <;> rfl
    have hp : ∀ (h : Array Obj) (x y : Obj), (h.push x).setIfInBounds h.size y = h.push y := by
      intro h x y
      apply Array.toList_inj.1
      simp
    have hset : ∀ (a : Option Nat) (b : Nat) (c : Array Nat) (d : Nat) (o' : Obj), (setObj w.heap.size o').run P (w1.alloc (.mapIter a b c d)) = .ok () (w1.alloc o') := fun a b c d o' => by
      simp only [setObj, Sem.run]
      rw [← hsz, heap_alloc_new]
      show Result.ok () ({ w1.alloc (.mapIter a b c d) with heap := (w1.heap.push (.mapIter a b c d)).setIfInBounds w1.heap.size o' } : World) = _
      rw [hp]
      rfl
    simp only [hrun, Array.getElem?_map, Array.getElem?_eq_getElem hj, Option.map_some, Sem.run_bind, hset, Result.andThen]
    rfl

end
end Go.Proofs.YtiinnnbpbnojgaaGreatDoor
