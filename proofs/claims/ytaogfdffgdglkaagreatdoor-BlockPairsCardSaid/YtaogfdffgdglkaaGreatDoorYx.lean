/- What is proved: a part of the walk of the program and of its plain laws; no condition beside those that each theorem names. -/
import Derived.Test.YtaogfdffgdglkaaGreatDoorYr
import Derived.Test.YtaogfdffgdglkaaGreatDoorYg
import Derived.Test.YtaogfdffgdglkaaGreatDoorYa
import Derived.Stop.RegionWithIn
namespace Go.Proofs.YtaogfdffgdglkaaGreatDoor
open Go Go.RowKit Go.Lib
set_option linter.unusedSimpArgs false
set_option linter.unusedVariables false
section
theorem OT : (Tryz.prog.info? 26).map (fun i => (i.zero, i.size, i.bytes)) = some (some (.agg #[.int .i64 0, .int .i64 0, .string ⟨#[]⟩]), 3, 32) := by kernel_rfl
def Ls (w : World) (B : Nat) (v : Value) (ts : List Sc) : Prop := w.ownsRow B 26 3 v ts.length (ts.flatMap A6)
theorem Hk : ∀ ts : List Sc, (ts.flatMap A6).length = ts.length * 3
 | [] => rfl
 | t :: r => by rw [List.flatMap_cons, List.length_append, Hk r]; simp [A6]; omega
theorem Jg : ∀ (ts : List Sc) (k : Nat), k < ts.length -> (ts.flatMap A6)[k * 3]? = some (.int .i64 (ts.getD k CF).kind) /\ (ts.flatMap A6)[k * 3 + 1]? = some (.int .i64 (ts.getD k CF).num) /\ (ts.flatMap A6)[k * 3 + 2]? = some (.string (ts.getD k CF).str)
 | [], k, h => by simp at h
 | t :: r, 0, h => ⟨rfl, rfl, rfl⟩
 | t :: r, k + 1, h => by
  have := Jg r k (by simpa using h)
  rw [List.flatMap_cons, show (k + 1) * 3 = 3 + k * 3 by omega]
  have e : ∀ j, (A6 t ++ r.flatMap A6)[3 + j]? = (r.flatMap A6)[j]? := fun j => by
   rw [List.getElem?_append_right (by simp [A6])]; simp [A6]
  rw [show 3 + k * 3 + 1 = 3 + (k * 3 + 1) by omega, show 3 + k * 3 + 2 = 3 + (k * 3 + 2) by omega, e, e, e]
  exact this
theorem Ls.sl {w : World} {B : Nat} {v : Value} {ts : List Sc} (h : Ls w B v ts) : Cy w v ts := by
 rcases h.2 with ⟨hv, h0⟩ | ⟨g, cap, cur, hv, _, hg, hnc, hcm, hsz, htake⟩
 ·rw [hv]
  have : ts = [] := List.eq_nil_of_length_eq_zero h0
  subst this
  exact Cy.nil w
 ·refine ⟨some ⟨g, 0, none⟩, cap, hv, fun k hk => ⟨g, 0, rfl, (Gl hg), ?_⟩⟩
  obtain ⟨f0, f1, f2⟩ := Jg ts k hk
  have hc : ∀ j u, (ts.flatMap A6)[j]? = some u -> w.cell? ⟨g, 0 + j, none⟩ = some u := fun j u hu => by
   rw [Nat.zero_add, cell_of_row w g j cur 26 (0, 0) hg]
   rw [<- htake, List.getElem?_take] at hu
   split at hu
   ·rw [Array.getElem?_toList] at hu; exact hu
   ·cases hu
  exact ⟨hc _ _ f0, hc _ _ f1, hc _ _ f2⟩
theorem Ls.turn {C : Nat -> Prop} {n B : Nat} {v : Value} {ts : List Sc} {X Y : World} (h : Ls X B v ts) (ht : Af C n X Y) (hC : ∀ k, C k -> ∃ T, T ≠ 26 /\ AW X k T) : Ls Y B v ts := by
 refine ⟨h.1, ?_⟩
 rcases h.2 with h0 | ⟨g, cap, cur, hv, hb, hg, hr⟩
 ·exact .inl h0
 ·have hng : ¬ C g := fun hc => by obtain ⟨T, h1, h2⟩ := hC g hc; exact h2.ne hg h1 rfl
  exact .inr ⟨g, cap, cur, hv, hb, ht.heap hg hng rfl, hr⟩
theorem Ls.keep {X Y : World} {B : Nat} {v : Value} {ts : List Sc} (h : Ls X B v ts) (hk : ∀ (j : Nat) (c : Array Value), X.heap[j]? = some (Obj.cells c 26 (0, 0)) -> Y.heap[j]? = some (Obj.cells c 26 (0, 0))) : Ls Y B v ts := by
 refine ⟨h.1, ?_⟩
 rcases h.2 with h0 | ⟨g, cap, cur, hv, hb, hg, hr⟩
 ·exact .inl h0
 ·exact .inr ⟨g, cap, cur, hv, hb, hk g cur hg, hr⟩
end
end Go.Proofs.YtaogfdffgdglkaaGreatDoor
