/- What is proved: rows of scalars of a call's own. -/
import Derived.Test.YtiinnnbpbnojgaaGreatDoorSv
import Derived.Test.YtiinnnbpbnojgaaGreatDoorQg
import Derived.Stop.RegionWithIn
namespace Go.Proofs.YtiinnnbpbnojgaaGreatDoor
open Go Go.RowKit Go.Lib
set_option linter.unusedSimpArgs false
set_option linter.unusedVariables false

theorem info_sc : (Tryz.prog.info? 26).map (fun i => (i.zero, i.size, i.bytes)) = some (some (.agg #[.int .i64 0, .int .i64 0, .string ⟨#[]⟩]), 3, 32) := by kernel_rfl
/-- A row of pieces of the call's own. -/
def OwnS (w : World) (B : Nat) (v : Value) (ts : List Sc) : Prop := w.ownsRow B 26 3 v ts.length (ts.flatMap scCells)
theorem flat_lenS : ∀ ts : List Sc, (ts.flatMap scCells).length = ts.length * 3
  | [] => rfl
  | t :: r => by rw [List.flatMap_cons, List.length_append, flat_lenS r]; simp [scCells]; omega
theorem flat_atS : ∀ (ts : List Sc) (k : Nat), k < ts.length → (ts.flatMap scCells)[k * 3]? = some (.int .i64 (ts.getD k sc0).kind) ∧ (ts.flatMap scCells)[k * 3 + 1]? = some (.int .i64 (ts.getD k sc0).num) ∧ (ts.flatMap scCells)[k * 3 + 2]? = some (.string (ts.getD k sc0).str)
  | [], k, h => by simp at h
  | t :: r, 0, h => ⟨rfl, rfl, rfl⟩
  | t :: r, k + 1, h => by
    have := flat_atS r k (by simpa using h)
    rw [List.flatMap_cons, show (k + 1) * 3 = 3 + k * 3 by omega]
    have e : ∀ j, (scCells t ++ r.flatMap scCells)[3 + j]? = (r.flatMap scCells)[j]? := fun j => by
      rw [List.getElem?_append_right (by simp [scCells])]; simp [scCells]
    rw [show 3 + k * 3 + 1 = 3 + (k * 3 + 1) by omega, show 3 + k * 3 + 2 = 3 + (k * 3 + 2) by omega, e, e, e]
    exact this
theorem OwnS.sl {w : World} {B : Nat} {v : Value} {ts : List Sc} (h : OwnS w B v ts) : ScIn w v ts := by
  rcases h.2 with ⟨hv, h0⟩ | ⟨g, cap, cur, hv, _, hg, hnc, hcm, hsz, htake⟩
  · rw [hv]
    have : ts = [] := List.eq_nil_of_length_eq_zero h0
    subst this
    exact ScIn.nil w
  · refine ⟨some ⟨g, 0, none⟩, cap, hv, fun k hk => ⟨g, 0, rfl, (Array.getElem?_eq_some_iff.1 hg).1, ?_⟩⟩
    obtain ⟨f0, f1, f2⟩ := flat_atS ts k hk
    have hc : ∀ j u, (ts.flatMap scCells)[j]? = some u → w.cell? ⟨g, 0 + j, none⟩ = some u := fun j u hu => by
      rw [Nat.zero_add, cell_of_row w g j cur 26 (0, 0) hg]
      rw [← htake, List.getElem?_take] at hu
      split at hu
      · rw [Array.getElem?_toList] at hu; exact hu
      · cases hu
    exact ⟨hc _ _ f0, hc _ _ f1, hc _ _ f2⟩
theorem OwnS.turn {C : Nat → Prop} {n B : Nat} {v : Value} {ts : List Sc} {X Y : World} (h : OwnS X B v ts) (ht : Turn C n X Y) (hC : ∀ k, C k → ∃ T, T ≠ 26 ∧ KindAt X k T) : OwnS Y B v ts := by
  refine ⟨h.1, ?_⟩
  rcases h.2 with h0 | ⟨g, cap, cur, hv, hb, hg, hr⟩
  · exact .inl h0
  · have hng : ¬ C g := fun hc => by obtain ⟨T, h1, h2⟩ := hC g hc; exact h2.ne hg h1 rfl
    exact .inr ⟨g, cap, cur, hv, hb, ht.heap hg hng rfl, hr⟩

theorem OwnS.keep {X Y : World} {B : Nat} {v : Value} {ts : List Sc} (h : OwnS X B v ts) (hk : ∀ (j : Nat) (c : Array Value), X.heap[j]? = some (Obj.cells c 26 (0, 0)) → Y.heap[j]? = some (Obj.cells c 26 (0, 0))) : OwnS Y B v ts := by
  refine ⟨h.1, ?_⟩
  rcases h.2 with h0 | ⟨g, cap, cur, hv, hb, hg, hr⟩
  · exact .inl h0
  · exact .inr ⟨g, cap, cur, hv, hb, hk g cur hg, hr⟩
theorem sc_ne {X : World} {j k : Nat} {c : Array Value} {T : TypeId} {u : Value} (hj : X.heap[j]? = some (Obj.cells c 26 (0, 0))) (hk : Boxed X k T u) (hT : T ≠ 26) : j ≠ k := by
  rintro rfl
  rw [show X.heap[j]? = _ from hk] at hj
  injection hj with hj; injection hj with _ hj
  exact hT hj
theorem own_rowS {w : World} {B : Nat} {v : Value} {ts : List Sc} (h : OwnS w B v ts) {k : Nat} (hk : v.ownBlock = some k) : B ≤ k ∧ ∃ cur, w.heap[k]? = some (.cells cur 26 (0, 0)) := by
  rcases h.2 with ⟨rfl, _⟩ | ⟨g, cap, cur, rfl, hb, hg, _⟩
  · simp [Value.ownBlock] at hk
  · simp [Value.ownBlock] at hk
    subst hk
    exact ⟨hb, cur, hg⟩
end Go.Proofs.YtiinnnbpbnojgaaGreatDoor
