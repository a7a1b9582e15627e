import Derived.Test.YtiinnnbpbnojgaaGreatDoorFz
import Derived.Test.YtiinnnbpbnojgaaGreatDoorFm
import Derived.Test.YtiinnnbpbnojgaaGreatDoorFc
import Derived.Deep.CutRange
import Derived.Test.YtiinnnbpbnojgaaGreatDoorSv
import Derived.BigGuard
import Derived.Test.YtiinnnbpbnojgaaGreatDoorGi
import Derived.Test.YtiinnnbpbnojgaaGreatDoorKp
import Derived.Deep.RegionHeldLaw
import Derived.Deep.AppendLies
import Derived.Deep.DrawnRows
/- What is proved: package flow's Value: the tree at a place, and the place behind, or a mistake's number. -/
namespace Go.Proofs.YtiinnnbpbnojgaaGreatDoor
open Go Go.RowKit Go.Lib
set_option linter.unusedSimpArgs false
set_option linter.unusedVariables false

/-- A block of seven cells, written over. -/
theorem fin7 {w1 : World} {N : Nat} {a0 a1 a2 a3 a4 a5 a6 : Value} {ty : TypeId} (h : w1.heap[N]? = some (.cells #[a0, a1, a2, a3, a4, a5, a6] ty)) (v0 v1 v2 v3 v4 v5 v6 : Value) (Z : World)
    (hZ : Z = (((((((w1.setCell ⟨N, 0, none⟩ v0).setCell ⟨N, 1, none⟩ v1).setCell ⟨N, 2, none⟩ v2).setCell ⟨N, 3, none⟩ v3).setCell ⟨N, 4, none⟩ v4).setCell ⟨N, 5, none⟩ v5).setCell ⟨N, 6, none⟩ v6)) :
    (Z.cell? ⟨N, 0, none⟩ = some v0 ∧ Z.cell? ⟨N, 1, none⟩ = some v1 ∧ Z.cell? ⟨N, 2, none⟩ = some v2 ∧ Z.cell? ⟨N, 3, none⟩ = some v3 ∧ Z.cell? ⟨N, 4, none⟩ = some v4 ∧ Z.cell? ⟨N, 5, none⟩ = some v5 ∧ Z.cell? ⟨N, 6, none⟩ = some v6) ∧
    (∀ n w, Below n w w1 → n ≤ N → Below n w Z) ∧ (∀ S : Nat → Prop, ¬ S N → Wide S w1 Z) := by
  subst hZ
  have h0 := heap_setCell_same w1 N 0 _ _ v0 h
  have h1 := heap_setCell_same _ N 1 _ _ v1 h0
  have h2 := heap_setCell_same _ N 2 _ _ v2 h1
  have h3 := heap_setCell_same _ N 3 _ _ v3 h2
  have h4 := heap_setCell_same _ N 4 _ _ v4 h3
  have h5 := heap_setCell_same _ N 5 _ _ v5 h4
  have h6 := heap_setCell_same _ N 6 _ _ v6 h5
  have h7 : (((((((w1.setCell ⟨N, 0, none⟩ v0).setCell ⟨N, 1, none⟩ v1).setCell ⟨N, 2, none⟩ v2).setCell ⟨N, 3, none⟩ v3).setCell ⟨N, 4, none⟩ v4).setCell ⟨N, 5, none⟩ v5).setCell ⟨N, 6, none⟩ v6).heap[N]? = some (.cells #[v0, v1, v2, v3, v4, v5, v6] ty) := by
    simp only [List.setIfInBounds_toArray, List.set_cons_zero, List.set_cons_succ] at h6
    exact h6
  refine ⟨⟨?_, ?_, ?_, ?_, ?_, ?_, ?_⟩, fun n w hb hn => ?_, fun S hS => ⟨Nat.le_of_eq (by simp only [World.size_setCell]), fun b o x hb hc => ?_⟩⟩
  · simp [World.cell?, h7]
  · simp [World.cell?, h7]
  · simp [World.cell?, h7]
  · simp [World.cell?, h7]
  · simp [World.cell?, h7]
  · simp [World.cell?, h7]
  · simp [World.cell?, h7]
  · have b0 := hb.setCell (p := ⟨N, 0, none⟩) hn v0
    have b1 := b0.setCell (p := ⟨N, 1, none⟩) hn v1
    have b2 := b1.setCell (p := ⟨N, 2, none⟩) hn v2
    have b3 := b2.setCell (p := ⟨N, 3, none⟩) hn v3
    have b4 := b3.setCell (p := ⟨N, 4, none⟩) hn v4
    have b5 := b4.setCell (p := ⟨N, 5, none⟩) hn v5
    exact b5.setCell (p := ⟨N, 6, none⟩) hn v6
  · have hne : b ≠ N := by rintro rfl; exact hS hb
    refine (World.cell?_of_block (w := w1) (a := ⟨b, o, none⟩) ?_).trans hc
    exact (Below.heap_setCell _ ⟨N, 6, none⟩ _ b hne).trans ((Below.heap_setCell _ ⟨N, 5, none⟩ _ b hne).trans ((Below.heap_setCell _ ⟨N, 4, none⟩ _ b hne).trans ((Below.heap_setCell _ ⟨N, 3, none⟩ _ b hne).trans ((Below.heap_setCell _ ⟨N, 2, none⟩ _ b hne).trans ((Below.heap_setCell _ ⟨N, 1, none⟩ _ b hne).trans (Below.heap_setCell w1 ⟨N, 0, none⟩ _ b hne))))))
theorem blk7 {w : World} {N : Nat} {a0 a1 a2 a3 a4 a5 a6 : Value} {ty : TypeId} (h : w.heap[N]? = some (.cells #[a0, a1, a2, a3, a4, a5, a6] ty)) :
    w.cell? ⟨N, 0, none⟩ = some a0 ∧ w.cell? ⟨N, 1, none⟩ = some a1 ∧ w.cell? ⟨N, 2, none⟩ = some a2 ∧ w.cell? ⟨N, 3, none⟩ = some a3 ∧ w.cell? ⟨N, 4, none⟩ = some a4 ∧ w.cell? ⟨N, 5, none⟩ = some a5 ∧ w.cell? ⟨N, 6, none⟩ = some a6 ∧
    w.frozen? ⟨N, 0, none⟩ = false ∧ w.frozen? ⟨N, 1, none⟩ = false ∧ w.frozen? ⟨N, 2, none⟩ = false ∧ w.frozen? ⟨N, 3, none⟩ = false ∧ w.frozen? ⟨N, 4, none⟩ = false ∧ w.frozen? ⟨N, 5, none⟩ = false ∧ w.frozen? ⟨N, 6, none⟩ = false := by
  refine ⟨?_, ?_, ?_, ?_, ?_, ?_, ?_, ?_, ?_, ?_, ?_, ?_, ?_, ?_⟩ <;> simp [World.cell?, World.frozen?, h]
theorem far7 {w1 : World} {N M j : Nat} {v0 v1 v2 v3 v4 v5 v6 x : Value} (h : w1.cell? ⟨M, j, none⟩ = some x) (hne : M ≠ N) :
    (((((((w1.setCell ⟨N, 0, none⟩ v0).setCell ⟨N, 1, none⟩ v1).setCell ⟨N, 2, none⟩ v2).setCell ⟨N, 3, none⟩ v3).setCell ⟨N, 4, none⟩ v4).setCell ⟨N, 5, none⟩ v5).setCell ⟨N, 6, none⟩ v6).cell? ⟨M, j, none⟩ = some x := by
  refine (World.cell?_of_block (w := w1) (a := ⟨M, j, none⟩) ?_).trans h
  exact (Below.heap_setCell _ ⟨N, 6, none⟩ _ M hne).trans ((Below.heap_setCell _ ⟨N, 5, none⟩ _ M hne).trans ((Below.heap_setCell _ ⟨N, 4, none⟩ _ M hne).trans ((Below.heap_setCell _ ⟨N, 3, none⟩ _ M hne).trans ((Below.heap_setCell _ ⟨N, 2, none⟩ _ M hne).trans ((Below.heap_setCell _ ⟨N, 1, none⟩ _ M hne).trans (Below.heap_setCell w1 ⟨N, 0, none⟩ _ M hne))))))
/-- What package flow's Value leaves. -/
def PostW (ts : List TkI) (r : FR) (w : World) (e : Ending) (w' : World) : Prop :=
  match r with
  | .ok t rest => ∃ (q : Nat) (tv : Value), q ≤ ts.length ∧ rest = pcs (ts.drop q) ∧ e = .returned (.tuple #[tv, .int .i64 q, .int .i64 0]) ∧ TrIn w' (fun b => w.heap.size ≤ b) t tv ∧ Below w.heap.size w w'
  | .bad er => e = .returned (.tuple #[tr0V, .int .i64 0, .int .i64 er]) ∧ Below w.heap.size w w'

set_option maxRecDepth 100000 in
set_option maxHeartbeats 4000000 in
theorem Value_any (v : Value) (ts : List TkI) (p : Nat) (w : World) (hx : Fx ts) (hv : TokIn w v ts) (hT : Tabs w) (hE : ErrTy w) (hp : p ≤ ts.length) :
    Calls Tryz.prog 17 #[v, .int .i64 p] w (PostW ts (valF (2 * (ts.length - p) + 2) 1 (pcs (ts.drop p))) w) := by
  obtain ⟨A, ca, rfl, hA⟩ := id hv
  obtain ⟨w1, hw1⟩ : ∃ w1, (w.alloc (.cells #[.int .i64 0, .string ⟨#[]⟩, .int .i64 0, .int .i64 0, .string ⟨#[]⟩, .slice none 0 0, .slice none 0 0] 30)).alloc (.cells #[.slice A ts.length ca, .int .i64 p] 69) = w1 := ⟨_, rfl⟩
  have hb1 : Below w.heap.size w w1 := by rw [← hw1]; exact ((Below.refl _ w).alloc (Nat.le_refl _) _).alloc (by simp) _
  have hrf : RF w1 (w.heap.size + 1) (.slice A ts.length ca) p := by
    have := World.alloc_heap_new (w.alloc (.cells #[.int .i64 0, .string ⟨#[]⟩, .int .i64 0, .int .i64 0, .string ⟨#[]⟩, .slice none 0 0, .slice none 0 0] 30)) (.cells #[.slice A ts.length ca, .int .i64 p] 69)
    rw [World.size_alloc, hw1] at this
    exact this
  have hrd : Rd w1 (w.heap.size + 1) (.slice A ts.length ca) ts p := ⟨hrf, hv.below hb1, w, hT, by omega, hb1⟩
  have hC := value_all (w.heap.size + 1) (.slice A ts.length ca) ts hx (2 * (ts.length - p) + 2) _ (Nat.le_refl _) 1 p w1 hrd hp (by omega) (by omega)
  rw [show ((1 : Nat) : Int) = 1 from rfl] at hC
  have hN : w1.heap[w.heap.size]? = some (.cells #[.int .i64 0, .string ⟨#[]⟩, .int .i64 0, .int .i64 0, .string ⟨#[]⟩, .slice none 0 0, .slice none 0 0] 30) := by
    rw [← hw1]; exact (Below.heap_alloc _ _ _ (by simp)).trans (World.alloc_heap_new w _)
  have hz1 : w1.heap.size = w.heap.size + 1 + 1 := by rw [← hw1]; simp
  have HW := hid hw1
  have HB1 := hid hb1
  have hsm1 := sm_val
  have hsm2 := sm_bad
  have hmt := methodTree
  clear hA hv hrf hrd hb1
  cases hr : valF (2 * (ts.length - p) + 2) 1 (pcs (ts.drop p)) with
  | bad er =>
    rw [hr] at hC
    go_enter Tryz.func17, Tryz.ntmps17
    go_wp2_with fail
    refine hC.mono ?_
    rintro e w2 ⟨rfl, hm⟩
    have hN2 := hm.heap hN (by omega)
    have hb2 : Below w.heap.size w w2 := Turn.below hm HB1.out (fun k hk => by omega) (by omega) (Nat.le_refl _)
    have hE2 : ErrTy (w2.alloc (.cells #[.iface 144 (.agg #[.int .i64 er])] 76)) := (hE.below hb2).below ((Below.refl _ w2).alloc (Nat.le_refl _) _)
    have hTo := Fw.told_any er _ hE2
    have hb3 := hb2.alloc hb2.size (.cells #[.iface 144 (.agg #[.int .i64 er])] 76)
    have hN3 := heap_below hN2 ((Below.refl _ w2).alloc (Nat.le_refl _) (.cells #[.iface 144 (.agg #[.int .i64 er])] 76))
    unfold badV
    clear hC hm hN hN2 hw1 hE hE2 hT hb2
    go_wp2_with fail
    refine hTo.mono ?_
    rintro e w4 ⟨rfl, hb4⟩
    have hN4 := heap_below hN3 hb4
    have hb5 := hb3.trans (hb4.mono hb3.size)
    have hC4 : w4.cell? ⟨w.heap.size, 0, none⟩ = some (.int .i64 0) ∧ w4.cell? ⟨w.heap.size, 1, none⟩ = some (.string ⟨#[]⟩) ∧ w4.cell? ⟨w.heap.size, 2, none⟩ = some (.int .i64 0) ∧ w4.cell? ⟨w.heap.size, 3, none⟩ = some (.int .i64 0) ∧ w4.cell? ⟨w.heap.size, 4, none⟩ = some (.string ⟨#[]⟩) ∧ w4.cell? ⟨w.heap.size, 5, none⟩ = some (.slice none 0 0) ∧ w4.cell? ⟨w.heap.size, 6, none⟩ = some (.slice none 0 0) := by
      refine ⟨?_, ?_, ?_, ?_, ?_, ?_, ?_⟩ <;> simp [World.cell?, hN4]
    obtain ⟨x0, x1, x2, x3, x4, x5, x6⟩ := hC4
    have hf : ∀ j, w4.frozen? ⟨w.heap.size, j, none⟩ = false := fun j => by simp [World.frozen?, hN4]
    have y0 := hf 0
    have y1 := hf 1
    have y2 := hf 2
    have y3 := hf 3
    have y4 := hf 4
    have y5 := hf 5
    have y6 := hf 6
    have HF := hid (fin7 hN4 (.int .i64 0) (.string ⟨#[]⟩) (.int .i64 0) (.int .i64 0) (.string ⟨#[]⟩) (.slice none 0 0) (.slice none 0 0))
    have HB5 := hid hb5
    clear hf hN3 hN4 hb3 hb4 hb5 hTo
    go_wp2
    obtain ⟨⟨c0, c1, c2, c3, c4, c5, c6⟩, hbb, _⟩ := HF.out _ rfl
    refine bodyPost_ret (v := .tuple #[tr0V, .int .i64 0, .int .i64 er]) (by simp [results, Tryz.results17, go_sem, c0, c1, c2, c3, c4, c5, c6, tr0V]) rfl ⟨rfl, hbb _ _ HB5.out (Nat.le_refl _)⟩
  | ok t rest =>
    rw [hr] at hC
    go_enter Tryz.func17, Tryz.ntmps17
    go_wp2_with fail
    refine hC.mono ?_
    rintro e w2 ⟨q, tv, hq, hrest, rfl, ht, hrf2, hm⟩
    have hN2 := hm.heap hN (by omega)
    have hb2 : Below w.heap.size w w2 := Turn.below hm HB1.out (fun k hk => by omega) (by omega) (Nat.le_refl _)
    obtain ⟨tk, tnm, xk, xn, xs, KA0, kl, kc, TA, tl, tc, rfl⟩ := ht.form
    have hA : Below w2.heap.size w2 (w2.alloc (.cells #[.nilIface] 76)) := (Below.refl _ w2).alloc (Nat.le_refl _) _
    have hb3 := hb2.trans (hA.mono hb2.size)
    have hN3 := heap_below hN2 hA
    have hrf3 := hrf2.below hA
    have ht3 := ht.below hA
    have g1 := hrf3.cells.2.1
    have HQ := hid (And.intro hq hrest)
    have hql : q ≤ 1000000 := by have := hx.len; omega
    clear hC hm hN hN2 hw1 hE hT hb2 hA hrf2 ht hq hrest
    go_upto_region 6 with fail
    have hne : w.heap.size + 1 ≠ w.heap.size := by omega
    refine wp_region_L (S := fun L w' => L.getD 8 true = false → w'.cell? ⟨w.heap.size + 1, 1, none⟩ = some (.int .i64 q)) (by kernel_rfl) (fun _ => g1) (fun hS => ?_)
    refine wpAnyL_take (i := 0) (v := ?_) 1 rfl (by kernel_rfl) (by kernel_rfl) (fun L w => by simp only [getD_set_ne true (show 0 ≠ 8 by decide)]) (by kernel_rfl) (by kernel_rfl) (by kernel_rfl) (fun _ _ _ h => h) (by rfl) ?_ hS (fun hS => ?_)
    rotate_left
    · intro L w' hL hm; (try dsimp only at hL); go_simp; (try with_reducible rfl)
    try simp only [Act.put, List.getElem_toArray, List.getElem_cons_succ, List.getElem_cons_zero, List.setIfInBounds_toArray, List.set_cons_zero, List.set_cons_succ]
    refine wpAnyL_take (i := 2) (v := ?_) 3 rfl (by kernel_rfl) (by kernel_rfl) (fun L w => by simp only [getD_set_ne true (show 2 ≠ 8 by decide)]) (by kernel_rfl) (by kernel_rfl) (by kernel_rfl) (fun _ _ _ h => h) (by rfl) ?_ hS (fun hS => ?_)
    rotate_left
    · intro L w' hL hm; (try dsimp only at hL); go_simp; (try with_reducible rfl)
    try simp only [Act.put, List.getElem_toArray, List.getElem_cons_succ, List.getElem_cons_zero, List.setIfInBounds_toArray, List.set_cons_zero, List.set_cons_succ]
    refine wpAnyL_take (i := 3) (v := ?_) 4 rfl (by kernel_rfl) (by kernel_rfl) (fun L w => by simp only [getD_set_ne true (show 3 ≠ 8 by decide)]) (by kernel_rfl) (by kernel_rfl) (by kernel_rfl) (fun _ _ _ h => h) (by rfl) ?_ hS (fun hS => ?_)
    rotate_left
    · intro L w' hL hm; (try dsimp only at hL); go_simp; (try with_reducible rfl)
    try simp only [Act.put, List.getElem_toArray, List.getElem_cons_succ, List.getElem_cons_zero, List.setIfInBounds_toArray, List.set_cons_zero, List.set_cons_succ]
    refine wpAnyL_take (i := 4) (v := ?_) 5 rfl (by kernel_rfl) (by kernel_rfl) (fun L w => by simp only [getD_set_ne true (show 4 ≠ 8 by decide)]) (by kernel_rfl) (by kernel_rfl) (by kernel_rfl) (fun _ _ _ h => h) (by rfl) ?_ hS (fun hS => ?_)
    rotate_left
    · intro L w' hL hm; (try dsimp only at hL); go_simp; (try with_reducible rfl)
    try simp only [Act.put, List.getElem_toArray, List.getElem_cons_succ, List.getElem_cons_zero, List.setIfInBounds_toArray, List.set_cons_zero, List.set_cons_succ]
    refine wpAnyL_take (i := 5) (v := ?_) 6 rfl (by kernel_rfl) (by kernel_rfl) (fun L w => by simp only [getD_set_ne true (show 5 ≠ 8 by decide)]) (by kernel_rfl) (by kernel_rfl) (by kernel_rfl) (fun _ _ _ h => h) (by rfl) ?_ hS (fun hS => ?_)
    rotate_left
    · intro L w' hL hm; (try dsimp only at hL); go_simp; (try with_reducible rfl)
    try simp only [Act.put, List.getElem_toArray, List.getElem_cons_succ, List.getElem_cons_zero, List.setIfInBounds_toArray, List.set_cons_zero, List.set_cons_succ]
    refine wpAnyL_take (i := 6) (v := ?_) 8 rfl (by kernel_rfl) (by kernel_rfl) (fun L w => by simp only [getD_set_ne true (show 6 ≠ 8 by decide)]) (by kernel_rfl) (by kernel_rfl) (by kernel_rfl) (fun _ _ _ h => h) (by rfl) ?_ hS (fun hS => ?_)
    rotate_left
    · intro L w' hL hm; (try dsimp only at hL); have hc := hL hm; go_simp; (try with_reducible rfl)
    try simp only [Act.put, List.getElem_toArray, List.getElem_cons_succ, List.getElem_cons_zero, List.setIfInBounds_toArray, List.set_cons_zero, List.set_cons_succ]
    refine wpAnyL_ready (rs := [1]) (by kernel_rfl) (by simp) (AllReadyL.cons rfl (by rfl) (fun K hK => ?_) AllReadyL.nil)
    go_simp
    refine (tree_val tk tnm xk xn xs KA0 kl kc TA tl tc _).mono ?_
    rintro e w4 ⟨rfl, hb4⟩
    have gg1 := cell_below (w := (w2.alloc (.cells #[.nilIface] 76)).drew) (show (w2.alloc (.cells #[.nilIface] 76)).drew.cell? ⟨w.heap.size + 1, 1, none⟩ = some (.int .i64 q) from g1) hb4
    have hN4 := heap_below (w := (w2.alloc (.cells #[.nilIface] 76)).drew) (show (w2.alloc (.cells #[.nilIface] 76)).drew.heap[w.heap.size]? = _ from hN3) hb4
    obtain ⟨x0, x1, x2, x3, x4, x5, x6, y0, y1, y2, y3, y4, y5, y6⟩ := blk7 hN4
    have HX := hid (And.intro hb4 hN4)
    refine hK.out _ _ (fun _ => gg1) (fun hS => ?_)
    clear hK K hb4 hN4
    try simp only [Act.put, List.getElem_toArray, List.getElem_cons_succ, List.getElem_cons_zero, List.setIfInBounds_toArray, List.set_cons_zero, List.set_cons_succ]
    refine wpAnyL_ready (rs := [7]) (by kernel_rfl) (by simp) (AllReadyL.cons rfl (by rfl) (fun K hK => ?_) AllReadyL.nil)
    go_simp
    refine hK.out _ _ (fun _ => far7 gg1 hne) (fun hS => ?_)
    clear hK K
    try simp only [Act.put, List.getElem_toArray, List.getElem_cons_succ, List.getElem_cons_zero, List.setIfInBounds_toArray, List.set_cons_zero, List.set_cons_succ]
    refine wpAnyL_ready (rs := [8]) (by kernel_rfl) (by simp) (AllReadyL.cons rfl (by rfl) (fun K hK => ?_) AllReadyL.nil)
    go_simp
    refine hK.out _ _ (fun hc => absurd hc (by decide)) (fun hS => ?_)
    clear hK K
    try simp only [Act.put, List.getElem_toArray, List.getElem_cons_succ, List.getElem_cons_zero, List.setIfInBounds_toArray, List.set_cons_zero, List.set_cons_succ]
    refine wpAnyL_ready (rs := [9]) (by kernel_rfl) (by simp) (AllReadyL.cons rfl (by rfl) (fun K hK => ?_) AllReadyL.nil)
    go_simp
    refine hK.out _ _ (fun hc => absurd hc (by decide)) (fun hS => ?_)
    clear hK K
    try simp only [Act.put, List.getElem_toArray, List.getElem_cons_succ, List.getElem_cons_zero, List.setIfInBounds_toArray, List.set_cons_zero, List.set_cons_succ]
    refine wpAnyL_done (by kernel_rfl) ?_ _
    refine NoPanic.normal ?_
    have HF := hid (fin7 HX.out.2 (.int .i64 tk) (.string tnm) (.int .i64 xk) (.int .i64 xn) (.string xs) (.slice KA0 kl kc) (.slice TA tl tc))
    have HT := hid ht3
    clear hS g1 gg1 x0 x1 x2 x3 x4 x5 x6 y0 y1 y2 y3 y4 y5 y6 hN3 ht3
    go_wp2
    obtain ⟨⟨c0, c1, c2, c3, c4, c5, c6⟩, hbb, hww⟩ := HF.out _ rfl
    have hb4 : Below (w2.alloc (.cells #[.nilIface] 76)).heap.size (w2.alloc (.cells #[.nilIface] 76)) w4 := (Below.refl _ _).drew.trans HX.out.1
    refine bodyPost_ret (v := .tuple #[.agg #[.int .i64 tk, .string tnm, .int .i64 xk, .int .i64 xn, .string xs, .slice KA0 kl kc, .slice TA tl tc], .int .i64 q, .int .i64 0]) (by simp [results, Tryz.results17, go_sem, c0, c1, c2, c3, c4, c5, c6]) rfl ⟨q, _, HQ.out.1, HQ.out.2, rfl, ?_, hbb _ _ (hb3.trans (hb4.mono hb3.size)) (Nat.le_refl _)⟩
    exact tr_less (S := fun b => w1.heap.size ≤ b) (fun b _ hb => by omega) _ _ (tr_wide (hww _ (by omega)) _ _ (HT.out.below hb4))
end Go.Proofs.YtiinnnbpbnojgaaGreatDoor

/- What is proved: package flow's Whole. -/
namespace Go.Proofs.YtiinnnbpbnojgaaGreatDoor
open Go Go.RowKit Go.Lib
set_option linter.unusedSimpArgs false
set_option linter.unusedVariables false

/-- What package flow's Whole leaves. -/
def PostH (r : Tr × Int) (w : World) (e : Ending) (w' : World) : Prop := ∃ tv, e = .returned (.tuple #[tv, .int .i64 r.2]) ∧ TrIn w' (fun b => w.heap.size ≤ b) r.1 tv ∧ Below w.heap.size w w'
theorem tr0_in (w : World) (S : Nat → Prop) : TrIn w S tr0 tr0V := TrIn.one w S sc0
theorem TokIn.drop {w : World} {b o n ca q : Nat} {ts : List TkI} (h : TokIn w (.slice (some ⟨b, o, none⟩) n ca) ts) (hq : q ≤ ts.length) (c : Nat) : TokIn w (.slice (some ⟨b, o + q * 3, none⟩) (n - q) c) (ts.drop q) := by
  obtain ⟨A, cap, hv, hc⟩ := h
  injection hv with e1 e2 e3
  refine ⟨some ⟨b, o + q * 3, none⟩, c, by rw [List.length_drop, e2], fun k hk => ?_⟩
  rw [List.length_drop] at hk
  obtain ⟨b', o', ha, hlt, h0, h1, h2⟩ := hc (q + k) (by omega)
  rw [← e1] at ha
  injection ha with ha
  injection ha with ha1 ha2
  subst ha1 ha2
  have e : (ts.drop q).getD k ⟨0, [], 0⟩ = ts.getD (q + k) ⟨0, [], 0⟩ := by simp [List.getD]
  rw [e]
  have e3 : o + q * 3 + k * 3 = o + (q + k) * 3 := by omega
  exact ⟨b, o + q * 3, rfl, hlt, by rw [e3]; exact h0, by rw [e3]; exact h1, by rw [e3]; exact h2⟩

set_option maxRecDepth 100000 in
set_option maxHeartbeats 4000000 in
theorem Whole_any (v : Value) (ts : List TkI) (w : World) (hx : Fx ts) (hv : TokIn w v ts) (hcap : ∀ A n c, v = .slice A n c → n ≤ c) (hT : Tabs w) (hE : ErrTy w) :
    Calls Tryz.prog 19 #[v] w (PostH (wholeW (pcs ts)) w) := by
  have hw : wholeW (pcs ts) = match valF (2 * (ts.length - 0) + 2) 1 (pcs (ts.drop 0)) with
      | .ok t rest => if rest = [] then (t, 0) else (tr0, 91)
      | .bad e => (tr0, e) := by
    unfold wholeW valueW
    rw [List.drop_zero, Nat.sub_zero, show (pcs ts).length = ts.length by unfold pcs; simp]
    cases valF (2 * ts.length + 2) 1 (pcs ts) with
    | bad e => rfl
    | ok t rest => cases rest <;> simp
  rw [hw]
  clear hw
  have hb0 : Below w.heap.size w (w.alloc (.cells #[.int .i64 0, .string ⟨#[]⟩, .int .i64 0, .int .i64 0, .string ⟨#[]⟩, .slice none 0 0, .slice none 0 0] 30)) := (Below.refl _ w).alloc (Nat.le_refl _) _
  have hN := World.alloc_heap_new w (.cells #[.int .i64 0, .string ⟨#[]⟩, .int .i64 0, .int .i64 0, .string ⟨#[]⟩, .slice none 0 0, .slice none 0 0] 30)
  have hC := Value_any v ts 0 _ hx (hv.below hb0) (hT.below hb0) (hE.below hb0) (Nat.zero_le _)
  rw [show ((0 : Nat) : Int) = 0 from rfl] at hC
  obtain ⟨r, hr⟩ : ∃ r, valF (2 * (ts.length - 0) + 2) 1 (pcs (ts.drop 0)) = r := ⟨_, rfl⟩
  rw [hr] at hC ⊢
  cases r with
  | bad er =>
    have her : er ≠ 0 := (bad_ne _).1 _ _ _ hr
    have hee : (er == 0) = false := by rw [beq_eq_false_iff_ne]; exact her
    simp only
    obtain ⟨A, ca, rfl, _⟩ := hv
    obtain ⟨r0, hr0⟩ : ∃ r0, ((tr0, er) : Tr × Int) = r0 := ⟨_, rfl⟩
    rw [hr0]
    have HR := hid hr0
    have HB0 := hid hb0
    clear hr hr0 hcap hx hT hE hb0
    go_enter Tryz.func19, Tryz.ntmps19
    go_wp2_with fail
    refine hC.mono ?_
    rintro e w1 ⟨rfl, hb1⟩
    unfold tr0V
    have hN1 := heap_below hN hb1
    have hb2 := HB0.out.trans (hb1.mono HB0.out.size)
    have hN2 := heap_below hN1 ((Below.refl _ w1).alloc (Nat.le_refl _) (.cells #[.int .i64 0, .string ⟨#[]⟩, .int .i64 0, .int .i64 0, .string ⟨#[]⟩, .slice none 0 0, .slice none 0 0] 30))
    have hb3 := hb2.alloc hb2.size (.cells #[.int .i64 0, .string ⟨#[]⟩, .int .i64 0, .int .i64 0, .string ⟨#[]⟩, .slice none 0 0, .slice none 0 0] 30)
    have HF := hid (fin7 hN2 (.int .i64 0) (.string ⟨#[]⟩) (.int .i64 0) (.int .i64 0) (.string ⟨#[]⟩) (.slice none 0 0) (.slice none 0 0))
    obtain ⟨x0, x1, x2, x3, x4, x5, x6, y0, y1, y2, y3, y4, y5, y6⟩ := blk7 hN2
    have HB3 := hid hb3
    clear hC hN hN1 hb1 hb2 hb3 hN2
    go_wp2
    obtain ⟨⟨c0, c1, c2, c3, c4, c5, c6⟩, hbb, hww⟩ := HF.out _ rfl
    refine bodyPost_ret (v := .tuple #[tr0V, .int .i64 er]) (by simp [results, Tryz.results19, go_sem, c0, c1, c2, c3, c4, c5, c6, tr0V]) rfl ?_
    rw [← HR.out]
    exact ⟨tr0V, rfl, tr0_in _ _, hbb _ _ HB3.out (Nat.le_refl _)⟩
  | ok t rest =>
    have hless := val_less hr
    rw [pcs_len] at hless
    have hne : 0 < ts.length := by omega
    obtain ⟨A, ca, rfl, hA⟩ := id hv
    have hca := hcap A _ ca rfl
    obtain ⟨b, o, rfl, _⟩ := hA 0 hne
    obtain ⟨r0, hr0⟩ : ∃ r0, ((if rest = [] then (t, 0) else (tr0, 91)) : Tr × Int) = r0 := ⟨_, rfl⟩
    simp only
    rw [hr0]
    have HR := hid hr0
    have HB0 := hid hb0
    have hlen := hx.len
    have HV := hid hv
    obtain ⟨n, hn⟩ : ∃ n, ts.length = n := ⟨_, rfl⟩
    have HN := hid hn
    rw [hn] at hca hlen hC
    clear hr hr0 hcap hT hE hb0 hn hA hv hx hne
    go_enter Tryz.func19, Tryz.ntmps19
    rw [HN.out]
    go_wp2_with fail
    refine hC.mono ?_
    rintro e w1 ⟨q, tv, hq, hrest, rfl, ht, hb1⟩
    obtain ⟨tk, tnm, xk, xn, xs, KA0, kl, kc, TA, tl, tc, rfl⟩ := ht.form
    have hN1 := heap_below hN hb1
    have hb2 := HB0.out.trans (hb1.mono HB0.out.size)
    have hAl : Below w1.heap.size w1 (w1.alloc (.cells #[.int .i64 tk, .string tnm, .int .i64 xk, .int .i64 xn, .string xs, .slice KA0 kl kc, .slice TA tl tc] 30)) := (Below.refl _ w1).alloc (Nat.le_refl _) _
    have hb3 := hb2.trans (hAl.mono hb2.size)
    have hN2 := heap_below hN1 hAl
    have hV2 := HV.out.below hb3
    have hT2 := ht.below hAl
    have hC7 := heap_below (World.alloc_heap_new w1 (.cells #[.int .i64 tk, .string tnm, .int .i64 xk, .int .i64 xn, .string xs, .slice KA0 kl kc, .slice TA tl tc] 30)) (Below.refl _ _)
    have hqn : q ≤ n := by rw [← HN.out]; exact hq
    have hq0 : 0 < q := by rw [hrest, pcs_len] at hless; omega
    have hq1 : (0 : Int) ≤ (q : Int) := by omega
    have hq2 : (q : Int) ≤ (n : Int) := by omega
    have hq3 : (n : Int) ≤ (ca : Int) := by omega
    have HB3 := hid hb3
    have HT2 := hid hT2
    clear hC hN hN1 hb1 hb2 hb3 hAl ht hT2 hless
    by_cases hcq : q = ca
    · have hnq : q = n := by omega
      have hS := tSame_anyI (.slice (some ⟨b, o, none⟩) 0 0) (.slice none 0 0) (ts.drop q) [] _ (⟨some ⟨b, o, none⟩, 0, by rw [List.length_drop, HN.out, ← hnq, Nat.sub_self], fun k hk => by rw [List.length_drop, HN.out] at hk; omega⟩ : TokIn _ (.slice (some ⟨b, o, none⟩) 0 0) (ts.drop q)) (TokIn.nil (w1.alloc (.cells #[.int .i64 tk, .string tnm, .int .i64 xk, .int .i64 xn, .string xs, .slice KA0 kl kc, .slice TA tl tc] 30))) (by rw [List.length_drop, HN.out]; omega) (by simp)
      clear hV2
      subst hcq
      subst hnq
      go_wp2_with fail
      refine hS.mono ?_
      rintro e w3 ⟨rfl, hb4⟩
      have hN3 := heap_below hN2 hb4
      have hC8 := heap_below hC7 hb4
      have HB4 := hid (HB3.out.trans (hb4.mono HB3.out.size))
      have HT3 := hid (HT2.out.below hb4)
      obtain ⟨x0, x1, x2, x3, x4, x5, x6, y0, y1, y2, y3, y4, y5, y6⟩ := blk7 hN3
      obtain ⟨z0, z1, z2, z3, z4, z5, z6, _, _, _, _, _, _, _⟩ := blk7 hC8
      clear hS hN2 hC7 hb4 hC8
      by_cases hd : ts.drop q = []
      · have hr1 : r0 = (t, 0) := by rw [← HR.out, hrest, if_pos (by rw [hd]; rfl)]
        rw [decide_eq_true hd]
        subst hr1
        have HF := hid (fin7 hN3 (.int .i64 tk) (.string tnm) (.int .i64 xk) (.int .i64 xn) (.string xs) (.slice KA0 kl kc) (.slice TA tl tc))
        clear hd hrest hN3
        go_wp2
        obtain ⟨⟨c0, c1, c2, c3, c4, c5, c6⟩, hbb, hww⟩ := HF.out _ rfl
        refine bodyPost_ret (v := .tuple #[.agg #[.int .i64 tk, .string tnm, .int .i64 xk, .int .i64 xn, .string xs, .slice KA0 kl kc, .slice TA tl tc], .int .i64 0]) (by simp [results, Tryz.results19, go_sem, c0, c1, c2, c3, c4, c5, c6]) rfl ?_
        refine ⟨_, rfl, tr_less (S := fun b => w.heap.size < b) (fun b _ hb => by omega) _ _ (tr_wide (hww _ (by omega)) _ _ (tr_less (fun b _ hb => by rw [World.size_alloc] at hb; omega) _ _ HT3.out)), hbb _ _ HB4.out (Nat.le_refl _)⟩
      · have hr1 : r0 = (tr0, 91) := by rw [← HR.out, hrest, if_neg (fun e => hd (by unfold pcs at e; exact List.map_eq_nil_iff.1 e))]
        rw [decide_eq_false hd]
        subst hr1
        have HF := hid (fin7 hN3 (.int .i64 0) (.string ⟨#[]⟩) (.int .i64 0) (.int .i64 0) (.string ⟨#[]⟩) (.slice none 0 0) (.slice none 0 0))
        clear hd hrest hN3
        go_wp2
        obtain ⟨⟨c0, c1, c2, c3, c4, c5, c6⟩, hbb, hww⟩ := HF.out _ rfl
        refine bodyPost_ret (v := .tuple #[tr0V, .int .i64 91]) (by simp [results, Tryz.results19, go_sem, c0, c1, c2, c3, c4, c5, c6, tr0V]) rfl ?_
        exact ⟨tr0V, rfl, tr0_in _ _, hbb _ _ HB4.out (Nat.le_refl _)⟩
    · have hS := tSame_anyI (.slice (some ⟨b, o + q * 3, none⟩) (n - q) (ca - q)) (.slice none 0 0) (ts.drop q) [] _ (by rw [← HN.out]; exact hV2.drop hq _) (TokIn.nil _) (by rw [List.length_drop, HN.out]; omega) (by simp)
      have hq4 : (q : Int) < (ca : Int) := by omega
      have hq5 : ¬ (ca : Int) = (q : Int) := by omega
      have hq6 : ¬ ca ≤ q := by omega
      clear hV2
      go_wp2_with fail
      refine hS.mono ?_
      rintro e w3 ⟨rfl, hb4⟩
      have hN3 := heap_below hN2 hb4
      have hC8 := heap_below hC7 hb4
      have HB4 := hid (HB3.out.trans (hb4.mono HB3.out.size))
      have HT3 := hid (HT2.out.below hb4)
      obtain ⟨x0, x1, x2, x3, x4, x5, x6, y0, y1, y2, y3, y4, y5, y6⟩ := blk7 hN3
      obtain ⟨z0, z1, z2, z3, z4, z5, z6, _, _, _, _, _, _, _⟩ := blk7 hC8
      clear hS hN2 hC7 hb4 hC8
      by_cases hd : ts.drop q = []
      · have hr1 : r0 = (t, 0) := by rw [← HR.out, hrest, if_pos (by rw [hd]; rfl)]
        rw [decide_eq_true hd]
        subst hr1
        have HF := hid (fin7 hN3 (.int .i64 tk) (.string tnm) (.int .i64 xk) (.int .i64 xn) (.string xs) (.slice KA0 kl kc) (.slice TA tl tc))
        clear hd hrest hN3
        go_wp2
        obtain ⟨⟨c0, c1, c2, c3, c4, c5, c6⟩, hbb, hww⟩ := HF.out _ rfl
        refine bodyPost_ret (v := .tuple #[.agg #[.int .i64 tk, .string tnm, .int .i64 xk, .int .i64 xn, .string xs, .slice KA0 kl kc, .slice TA tl tc], .int .i64 0]) (by simp [results, Tryz.results19, go_sem, c0, c1, c2, c3, c4, c5, c6]) rfl ?_
        refine ⟨_, rfl, tr_less (S := fun b => w.heap.size < b) (fun b _ hb => by omega) _ _ (tr_wide (hww _ (by omega)) _ _ (tr_less (fun b _ hb => by rw [World.size_alloc] at hb; omega) _ _ HT3.out)), hbb _ _ HB4.out (Nat.le_refl _)⟩
      · have hr1 : r0 = (tr0, 91) := by rw [← HR.out, hrest, if_neg (fun e => hd (by unfold pcs at e; exact List.map_eq_nil_iff.1 e))]
        rw [decide_eq_false hd]
        subst hr1
        have HF := hid (fin7 hN3 (.int .i64 0) (.string ⟨#[]⟩) (.int .i64 0) (.int .i64 0) (.string ⟨#[]⟩) (.slice none 0 0) (.slice none 0 0))
        clear hd hrest hN3
        go_wp2
        obtain ⟨⟨c0, c1, c2, c3, c4, c5, c6⟩, hbb, hww⟩ := HF.out _ rfl
        refine bodyPost_ret (v := .tuple #[tr0V, .int .i64 91]) (by simp [results, Tryz.results19, go_sem, c0, c1, c2, c3, c4, c5, c6, tr0V]) rfl ?_
        exact ⟨tr0V, rfl, tr0_in _ _, hbb _ _ HB4.out (Nat.le_refl _)⟩
end Go.Proofs.YtiinnnbpbnojgaaGreatDoor

/- What is proved: slices.Equal at scalars. -/
namespace Go.Proofs.YtiinnnbpbnojgaaGreatDoor
open Go Go.RowKit Go.Lib
set_option linter.unusedSimpArgs false
set_option linter.unusedVariables false

set_option maxRecDepth 100000 in
set_option maxHeartbeats 2000000 in
theorem slEqualS_any (u v : Value) (xs ys : List Sc) (w : World) (hx : ScIn w u xs) (hy : ScIn w v ys) (hl : xs.length ≤ 1000000) (hm : ys.length ≤ 1000000) :
    Calls Tryz.prog 34 #[u, v] w fun e w' => e = .returned (.bool (decide (xs = ys))) ∧ Below w.heap.size w w' := by
  obtain ⟨A, ca, rfl, hA⟩ := hx
  obtain ⟨B, cb, rfl, hB⟩ := hy
  by_cases hne : xs.length = ys.length
  · obtain ⟨n, hn⟩ : ∃ n, xs.length = n := ⟨_, rfl⟩
    rw [hn] at hne hA hl ⊢
    rw [← hne] at hB hm ⊢
    have HN := hid (And.intro hn hne)
    clear hn hne
    go_enter Tryz.func34, Tryz.ntmps34
    go_wp2
    go_loopw [13] (fun i wr => (∃ q, wr = w.drewN q) ∧ ∃ k : Nat, k ≤ n ∧ i = .int .i64 k ∧ Hid (xs.take k = ys.take k)) (fun i _ => n - (intOf i).toNat)
    case atStart => exact ⟨⟨0, rfl⟩, 0, by omega, rfl, hid rfl⟩
    case round =>
      obtain ⟨⟨q0, rfl⟩, k, hk, rfl, HI⟩ := hrel
      by_cases hlt : k < n
      · obtain ⟨a, o, rfl, ha, a0, a1, a2⟩ := hA k hlt
        obtain ⟨b, o2, rfl, hb, b0, b1, b2⟩ := hB k hlt
        obtain ⟨⟨k1, p1, s1⟩, hx⟩ : ∃ x, xs.getD k sc0 = x := ⟨_, rfl⟩
        obtain ⟨⟨k2, p2, s2⟩, hy⟩ : ∃ x, ys.getD k sc0 = x := ⟨_, rfl⟩
        rw [hx] at a0 a1 a2
        rw [hy] at b0 b1 b2
        have HX := hid (And.intro hx hy)
        clear hx hy
        clear hA hB
        have hki : (k : Int) < (n : Int) := by omega
        go_wp2
        obtain ⟨bb, hbb⟩ : ∃ bb, ((k1 : Int) == (k2 : Int) && ((p1 : Int) == (p2 : Int) && s1.toList == s2.toList)) = bb := ⟨_, rfl⟩
        have hE := fun wx => neq_sc k1 p1 k2 p2 s1 s2 wx
        rw [hbb] at hE
        have HB := hid (show decide ((⟨k1, p1, s1⟩ : Sc) = ⟨k2, p2, s2⟩) = bb from (sc_eq ⟨k1, p1, s1⟩ ⟨k2, p2, s2⟩).symm.trans hbb)
        clear hbb
        have HT := hid (take_eqS (xs := xs) (ys := ys) (k := k) (by have := HN.out; omega) (by have := HN.out; omega) HI.out)
        go_quiet (fail)
        cases bb with
        | true =>
          have HI' := hid (HT.out.1 (by rw [HX.out.1, HX.out.2]; exact of_decide_eq_true HB.out))
          go_wp2
          go_roundw
          case rel => exact ⟨⟨_, rfl⟩, k + 1, by omega, by go_num, HI'⟩
          case measure => simp [intOf]; omega
        | false =>
          have HF := hid (HT.out.2 (by rw [HX.out.1, HX.out.2]; exact of_decide_eq_false HB.out))
          go_wp2
          go_ret
          exact ⟨by rw [decide_eq_false HF.out]; rfl, by first | exact below_drewN (below_drewN (Below.refl _ _)) | exact below_drewN (Below.refl _ _) | exact Below.refl _ _⟩
      · have HF := hid (show xs = ys by
          have h := HI.out
          rwa [List.take_of_length_le (by have := HN.out; omega), List.take_of_length_le (by have := HN.out; omega)] at h)
        have hki : ¬ (k : Int) < (n : Int) := by omega
        go_wp2
        go_ret
        exact ⟨by rw [decide_eq_true HF.out]; rfl, by first | exact below_drewN (below_drewN (Below.refl _ _)) | exact below_drewN (Below.refl _ _) | exact Below.refl _ _⟩
  · have HF := hid (show ¬ xs = ys from fun h => hne (by rw [h]))
    have hne' : ((xs.length : Int) == (ys.length : Int)) = false := by rw [beq_eq_false_iff_ne]; omega
    go_enter Tryz.func34, Tryz.ntmps34
    go_wp2
    go_ret
    exact ⟨by rw [decide_eq_false HF.out]; rfl, Below.refl _ _⟩

end Go.Proofs.YtiinnnbpbnojgaaGreatDoor

/- What is proved: slices.EqualFunc, with package flow's Same, at two rows of the same trees. -/
namespace Go.Proofs.YtiinnnbpbnojgaaGreatDoor
open Go Go.RowKit Go.Lib
set_option linter.unusedSimpArgs false
set_option linter.unusedVariables false

/-- Nowhere in a tree are there more than M keys, or kids. -/
def Sm (M : Nat) : Tr → Prop
  | .mk _ _ _ ks ts => ks.length ≤ M ∧ ts.length ≤ M ∧ SmTs ts
where SmTs : List Tr → Prop
  | [] => True
  | t :: r => Sm M t ∧ SmTs r
/-- Same tells of two values of one tree that they are the same. -/
def SameP (t : Tr) : Prop := ∀ (tv uv : Value) (S S' : Nat → Prop) (w : World), TrIn w S t tv → TrIn w S' t uv → Sm 1000000 t →
  Calls Tryz.prog 18 #[tv, uv] w fun e w' => e = .returned (.bool true) ∧ Below w.heap.size w w'
theorem sm_get {M : Nat} : ∀ (ts : List Tr) (k : Nat), k < ts.length → Sm.SmTs M ts → Sm M (ts.getD k tr0)
  | [], k, h, _ => by simp at h
  | t :: r, 0, _, h => by unfold Sm.SmTs at h; exact h.1
  | t :: r, k + 1, h, hs => by unfold Sm.SmTs at hs; exact sm_get r k (by simpa using h) hs.2
theorem ts_get {w : World} {S : Nat → Prop} {A : Option Addr} : ∀ (ts : List Tr) (i k : Nat), k < ts.length → TrIn.TsIn w S A i ts → ∃ (b o : Nat) (tv : Value), A = some ⟨b, o, none⟩ ∧ Cell7 w b (o + (i + k) * 7) tv ∧ TrIn w S (ts.getD k tr0) tv
  | [], i, k, h, _ => by simp at h
  | t :: r, i, 0, _, h => by
    unfold TrIn.TsIn at h
    obtain ⟨⟨b, o, tv, e, _, _, h7, ht⟩, _⟩ := h
    exact ⟨b, o, tv, e, h7, ht⟩
  | t :: r, i, k + 1, h, hs => by
    unfold TrIn.TsIn at hs
    obtain ⟨b, o, tv, e, h7, ht⟩ := ts_get r (i + 1) k (by simpa using h) hs.2
    exact ⟨b, o, tv, e, by rw [show i + (k + 1) = i + 1 + k by omega]; exact h7, ht⟩

theorem Cell7.form {w : World} {S : Nat → Prop} {t : Tr} {b q : Nat} {tv : Value} (h : Cell7 w b q tv) (ht : TrIn w S t tv) : ∃ (k : Int) (nm : ByteArray) (xk xn : Int) (xs : ByteArray) (KA : Option Addr) (kl kc : Nat) (A : Option Addr) (l c : Nat),
    tv = .agg #[.int .i64 k, .string nm, .int .i64 xk, .int .i64 xn, .string xs, .slice KA kl kc, .slice A l c] ∧ w.cell? ⟨b, q, none⟩ = some (.int .i64 k) ∧ w.cell? ⟨b, q + 1, none⟩ = some (.string nm) ∧ w.cell? ⟨b, q + 2, none⟩ = some (.int .i64 xk) ∧
    w.cell? ⟨b, q + 3, none⟩ = some (.int .i64 xn) ∧ w.cell? ⟨b, q + 4, none⟩ = some (.string xs) ∧ w.cell? ⟨b, q + 5, none⟩ = some (.slice KA kl kc) ∧ w.cell? ⟨b, q + 6, none⟩ = some (.slice A l c) := by
  obtain ⟨k, nm, xk, xn, xs, KA, kl, kc, A, l, c, rfl⟩ := ht.form
  obtain ⟨k', nm', x', kv', cv', e, c0, c1, c2, c3, c4, c5, c6⟩ := h
  injection e with e
  simp at e
  obtain ⟨rfl, rfl, rfl, rfl, rfl, rfl, rfl⟩ := e
  exact ⟨k, nm, _, _, _, KA, kl, kc, A, l, c, rfl, c0, c1, c2, c3, c4, c5, c6⟩

set_option maxRecDepth 100000 in
set_option maxHeartbeats 4000000 in
theorem eqFunc_same (ts : List Tr) (A B : Option Addr) (ca cb : Nat) (S S' : Nat → Prop) (w : World) (hA : TrIn.TsIn w S A 0 ts) (hB : TrIn.TsIn w S' B 0 ts) (hl : ts.length ≤ 1000000) (hsm : Sm.SmTs 1000000 ts) (hsame : ∀ i, i < ts.length → SameP (ts.getD i tr0)) :
    Calls Tryz.prog 35 #[.slice A ts.length ca, .slice B ts.length cb, .func (.func 18) #[] #[]] w fun e w' => e = .returned (.bool true) ∧ Below w.heap.size w w' := by
  have hK : ∀ k, k < ts.length → ∃ (a o b p : Nat) (tv uv : Value), A = some ⟨a, o, none⟩ ∧ B = some ⟨b, p, none⟩ ∧ (∃ (kd : Int) (nm : ByteArray) (xk xn : Int) (xs : ByteArray) (KA : Option Addr) (kl kc : Nat) (A : Option Addr) (l c : Nat), tv = .agg #[.int .i64 kd, .string nm, .int .i64 xk, .int .i64 xn, .string xs, .slice KA kl kc, .slice A l c] ∧ w.cell? ⟨a, o + k * 7, none⟩ = some (.int .i64 kd) ∧ w.cell? ⟨a, o + k * 7 + 1, none⟩ = some (.string nm) ∧ w.cell? ⟨a, o + k * 7 + 2, none⟩ = some (.int .i64 xk) ∧ w.cell? ⟨a, o + k * 7 + 3, none⟩ = some (.int .i64 xn) ∧ w.cell? ⟨a, o + k * 7 + 4, none⟩ = some (.string xs) ∧ w.cell? ⟨a, o + k * 7 + 5, none⟩ = some (.slice KA kl kc) ∧ w.cell? ⟨a, o + k * 7 + 6, none⟩ = some (.slice A l c)) ∧ (∃ (kd : Int) (nm : ByteArray) (xk xn : Int) (xs : ByteArray) (KA : Option Addr) (kl kc : Nat) (A : Option Addr) (l c : Nat), uv = .agg #[.int .i64 kd, .string nm, .int .i64 xk, .int .i64 xn, .string xs, .slice KA kl kc, .slice A l c] ∧ w.cell? ⟨b, p + k * 7, none⟩ = some (.int .i64 kd) ∧ w.cell? ⟨b, p + k * 7 + 1, none⟩ = some (.string nm) ∧ w.cell? ⟨b, p + k * 7 + 2, none⟩ = some (.int .i64 xk) ∧ w.cell? ⟨b, p + k * 7 + 3, none⟩ = some (.int .i64 xn) ∧ w.cell? ⟨b, p + k * 7 + 4, none⟩ = some (.string xs) ∧ w.cell? ⟨b, p + k * 7 + 5, none⟩ = some (.slice KA kl kc) ∧ w.cell? ⟨b, p + k * 7 + 6, none⟩ = some (.slice A l c)) ∧
      ∀ W, Below w.heap.size w W → Calls Tryz.prog 18 #[tv, uv] W fun e w' => e = .returned (.bool true) ∧ Below W.heap.size W w' := fun k hk => by
    obtain ⟨a, o, tv, e1, h1, t1⟩ := ts_get ts 0 k hk hA
    obtain ⟨b, p, uv, e2, h2, t2⟩ := ts_get ts 0 k hk hB
    rw [Nat.zero_add] at h1 h2
    exact ⟨a, o, b, p, tv, uv, e1, e2, h1.form t1, h2.form t2, fun W hW => hsame k hk tv uv S S' W (t1.below hW) (t2.below hW) (sm_get ts k hk hsm)⟩
  obtain ⟨n, hn⟩ : ∃ n, ts.length = n := ⟨_, rfl⟩
  rw [hn] at hK hl ⊢
  clear hA hB hsm hsame hn
  go_enter Tryz.func35, Tryz.ntmps35
  go_wp2
  go_loopw [17] (fun i wr => Hid (Below w.heap.size w wr) ∧ ∃ k : Nat, k ≤ n ∧ i = .int .i64 k) (fun i _ => n - (intOf i).toNat)
  case atStart => exact ⟨hid (Below.refl _ _), 0, by omega, rfl⟩
  case round =>
    obtain ⟨HB, k, hk, rfl⟩ := hrel
    by_cases hlt : k < n
    · obtain ⟨a, o, b, p, tv, uv, rfl, rfl, h1, h2, hS⟩ := hK k hlt
      obtain ⟨k1, n1, y1, z1, s1, KA1, kl1, kc1, A1, l1, c1, rfl, a0, a1, a2, a3, a4, a5, a6⟩ := h1
      obtain ⟨k2, n2, y2, z2, s2, KA2, kl2, kc2, A2, l2, c2, rfl, b0, b1, b2, b3, b4, b5, b6⟩ := h2
      replace a0 := cell_below a0 HB.out
      replace a1 := cell_below a1 HB.out
      replace a2 := cell_below a2 HB.out
      replace a3 := cell_below a3 HB.out
      replace a4 := cell_below a4 HB.out
      replace a5 := cell_below a5 HB.out
      replace a6 := cell_below a6 HB.out
      replace b0 := cell_below b0 HB.out
      replace b1 := cell_below b1 HB.out
      replace b2 := cell_below b2 HB.out
      replace b3 := cell_below b3 HB.out
      replace b4 := cell_below b4 HB.out
      replace b5 := cell_below b5 HB.out
      replace b6 := cell_below b6 HB.out
      have hki : (k : Int) < (n : Int) := by omega
      clear hK
      have hb2 : Below wr.heap.size wr ((wr.alloc (.cells #[.int .i64 k1, .string n1, .int .i64 y1, .int .i64 z1, .string s1, .slice KA1 kl1 kc1, .slice A1 l1 c1] 30)).alloc (.cells #[.int .i64 k2, .string n2, .int .i64 y2, .int .i64 z2, .string s2, .slice KA2 kl2 kc2, .slice A2 l2 c2] 30)) := ((Below.refl _ wr).alloc (Nat.le_refl _) _).alloc (by simp) _
      have hq1 := (Below.refl wr.heap.size wr).alloc (Nat.le_refl _) (.cells #[.int .i64 k1, .string n1, .int .i64 y1, .int .i64 z1, .string s1, .slice KA1 kl1 kc1, .slice A1 l1 c1] 30)
      have hD1 := cells7 wr (.int .i64 k1) (.string n1) (.int .i64 y1) (.int .i64 z1) (.string s1) (.slice KA1 kl1 kc1) (.slice A1 l1 c1) 30
      have hSw := hS _ (HB.out.trans (hb2.mono HB.out.size))
      replace b0 := cell_below b0 hq1
      replace b1 := cell_below b1 hq1
      replace b2 := cell_below b2 hq1
      replace b3 := cell_below b3 hq1
      replace b4 := cell_below b4 hq1
      replace b5 := cell_below b5 hq1
      replace b6 := cell_below b6 hq1
      have HB2 := hid (HB.out.trans (hb2.mono HB.out.size))
      clear hS hb2 hq1 hD1
      go_wp2_with fail
      refine hSw.mono ?_
      rintro e w3 ⟨rfl, hb3⟩
      have HB3 := hid (HB2.out.trans (hb3.mono HB2.out.size))
      clear hSw hb3
      go_wp2
      go_roundw
      case rel => exact ⟨HB3, k + 1, by omega, by go_num⟩
      case measure => simp [intOf]; omega
    · have hki : ¬ (k : Int) < (n : Int) := by omega
      go_wp2
      go_ret
      exact ⟨rfl, HB.out⟩
end Go.Proofs.YtiinnnbpbnojgaaGreatDoor

/- What is proved: package flow's Same tells of two values of one tree that they are the same; and of two whose kinds differ that they are not. -/
namespace Go.Proofs.YtiinnnbpbnojgaaGreatDoor
open Go Go.RowKit Go.Lib
set_option linter.unusedSimpArgs false
set_option linter.unusedVariables false

set_option maxRecDepth 100000 in
set_option maxHeartbeats 4000000 in
theorem same_node (k : Int) (nm : ByteArray) (x : Sc) (ks : List Sc) (ts : List Tr) (hkids : ∀ i, i < ts.length → SameP (ts.getD i tr0)) : SameP (.mk k nm x ks ts) := by
  intro tv uv S S' w h1 h2 hsm
  unfold TrIn at h1 h2
  unfold Sm at hsm
  obtain ⟨hks, hts, hsm⟩ := hsm
  obtain ⟨kv, A, ca, rfl, hk1, _, ht1⟩ := h1
  obtain ⟨kv2, B, cb, rfl, hk2, _, ht2⟩ := h2
  obtain ⟨KA, kc, rfl, _⟩ := id hk1
  obtain ⟨KB, kc2, rfl, _⟩ := id hk2
  obtain ⟨xk, xn, xs⟩ := x
  dsimp only
  have heq : ∀ W, (binOp .eql 26 (.agg #[.int .i64 xk, .int .i64 xn, .string xs]) (.agg #[.int .i64 xk, .int .i64 xn, .string xs])).run Tryz.prog W = .ok (.bool true) W := fun W => by
    rw [eql_sc]; simp
  have hE := fun W (hW : Below w.heap.size w W) => slEqualS_any (.slice KA ks.length kc) (.slice KB ks.length kc2) ks ks W (hk1.below hW) (hk2.below hW) hks hks
  have hF := fun W (hW : Below w.heap.size w W) => eqFunc_same ts A B ca cb S S' W (ts_wide (.of_below hW) A 0 ts ht1) (ts_wide (.of_below hW) B 0 ts ht2) hts hsm hkids
  simp only [decide_true] at hE
  obtain ⟨nk, hnk⟩ : ∃ n, ks.length = n := ⟨_, rfl⟩
  obtain ⟨nt, hnt⟩ : ∃ n, ts.length = n := ⟨_, rfl⟩
  rw [hnk] at hE ⊢
  rw [hnt] at hF ⊢
  have hb0 : Below w.heap.size w ((w.alloc (.cells #[.int .i64 k, .string nm, .int .i64 xk, .int .i64 xn, .string xs, .slice KA nk kc, .slice A nt ca] 30)).alloc (.cells #[.int .i64 k, .string nm, .int .i64 xk, .int .i64 xn, .string xs, .slice KB nk kc2, .slice B nt cb] 30)) := ((Below.refl _ w).alloc (Nat.le_refl _) _).alloc (by simp) _
  have hN1 : ((w.alloc (.cells #[.int .i64 k, .string nm, .int .i64 xk, .int .i64 xn, .string xs, .slice KA nk kc, .slice A nt ca] 30)).alloc (.cells #[.int .i64 k, .string nm, .int .i64 xk, .int .i64 xn, .string xs, .slice KB nk kc2, .slice B nt cb] 30)).heap[w.heap.size]? = some (.cells #[.int .i64 k, .string nm, .int .i64 xk, .int .i64 xn, .string xs, .slice KA nk kc, .slice A nt ca] 30) :=
    (Below.heap_alloc _ _ _ (by simp)).trans (World.alloc_heap_new w _)
  have hN2 := World.alloc_heap_new (w.alloc (.cells #[.int .i64 k, .string nm, .int .i64 xk, .int .i64 xn, .string xs, .slice KA nk kc, .slice A nt ca] 30)) (.cells #[.int .i64 k, .string nm, .int .i64 xk, .int .i64 xn, .string xs, .slice KB nk kc2, .slice B nt cb] 30)
  rw [World.size_alloc] at hN2
  have hE0 := hE _ hb0
  obtain ⟨x0, x1, x2, x3, x4, x5, x6, _, _, _, _, _, _, _⟩ := blk7 hN1
  obtain ⟨y0, y1, y2, y3, y4, y5, y6, _, _, _, _, _, _, _⟩ := blk7 hN2
  have HB := hid hb0
  clear hk1 hk2 ht1 ht2 hE hkids hsm hnk hnt hb0
  go_enter Tryz.func18, Tryz.ntmps18
  go_wp2_with fail
  refine hE0.mono ?_
  rintro e w3 ⟨rfl, hb3⟩
  have hM1 := heap_below hN1 hb3
  have hM2 := heap_below hN2 hb3
  have hb4 := HB.out.trans (hb3.mono HB.out.size)
  have hF0 := hF _ hb4
  have HB4 := hid hb4
  clear hE0 hN1 hN2 hF x0 x1 x2 x3 x4 x5 x6 y0 y1 y2 y3 y4 y5 y6 hb3 hb4
  obtain ⟨x0, x1, x2, x3, x4, x5, x6, _, _, _, _, _, _, _⟩ := blk7 hM1
  obtain ⟨y0, y1, y2, y3, y4, y5, y6, _, _, _, _, _, _, _⟩ := blk7 hM2
  go_wp2_with fail
  refine hF0.mono ?_
  rintro e w5 ⟨rfl, hb5⟩
  have HB5 := hid (HB4.out.trans (hb5.mono HB4.out.size))
  clear hF0 hM1 hM2 x0 x1 x2 x3 x4 x5 x6 y0 y1 y2 y3 y4 y5 y6 hb5
  go_wp2
  go_ret
  exact ⟨rfl, HB5.out⟩
mutual
theorem same_eq : ∀ t : Tr, SameP t
  | .mk k nm x ks ts => same_node k nm x ks ts (same_all ts)
theorem same_all : ∀ (ts : List Tr) (i : Nat), i < ts.length → SameP (ts.getD i tr0)
  | [], i, h => by simp at h
  | t :: r, 0, _ => same_eq t
  | t :: r, i + 1, h => same_all r i (by simpa using h)
end

set_option maxRecDepth 100000 in
theorem same_kind (k k' : Int) (nm nm' : ByteArray) (xk xn yk yn : Int) (xs ys : ByteArray) (KA KB : Option Addr) (kl kc kl' kc' : Nat) (A B : Option Addr) (l c l' c' : Nat) (w : World) (hk : k ≠ k') :
    Calls Tryz.prog 18 #[.agg #[.int .i64 k, .string nm, .int .i64 xk, .int .i64 xn, .string xs, .slice KA kl kc, .slice A l c], .agg #[.int .i64 k', .string nm', .int .i64 yk, .int .i64 yn, .string ys, .slice KB kl' kc', .slice B l' c']] w fun e w' => e = .returned (.bool false) ∧ Below w.heap.size w w' := by
  have hkk : (k == k') = false := by rw [beq_eq_false_iff_ne]; exact hk
  have hN1 : ((w.alloc (.cells #[.int .i64 k, .string nm, .int .i64 xk, .int .i64 xn, .string xs, .slice KA kl kc, .slice A l c] 30)).alloc (.cells #[.int .i64 k', .string nm', .int .i64 yk, .int .i64 yn, .string ys, .slice KB kl' kc', .slice B l' c'] 30)).heap[w.heap.size]? = some (.cells #[.int .i64 k, .string nm, .int .i64 xk, .int .i64 xn, .string xs, .slice KA kl kc, .slice A l c] 30) :=
    (Below.heap_alloc _ _ _ (by simp)).trans (World.alloc_heap_new w _)
  have hN2 := World.alloc_heap_new (w.alloc (.cells #[.int .i64 k, .string nm, .int .i64 xk, .int .i64 xn, .string xs, .slice KA kl kc, .slice A l c] 30)) (.cells #[.int .i64 k', .string nm', .int .i64 yk, .int .i64 yn, .string ys, .slice KB kl' kc', .slice B l' c'] 30)
  rw [World.size_alloc] at hN2
  have x0 := (blk7 hN1).1
  have y0 := (blk7 hN2).1
  clear hN1 hN2
  go_enter Tryz.func18, Tryz.ntmps18
  go_wp2
  go_ret
  exact ⟨rfl, ((Below.refl _ w).alloc (Nat.le_refl _) _).alloc (by simp) _⟩
end Go.Proofs.YtiinnnbpbnojgaaGreatDoor

/- What is proved: law 16's Few and cut: the first sixty pieces, their texts cut. -/
namespace Go.Proofs.YtiinnnbpbnojgaaGreatDoor
open Go Go.RowKit Go.Lib
set_option linter.unusedSimpArgs false
set_option linter.unusedVariables false
attribute [local go_sem ↓] Go.wp_at_zero Go.wp_at_succ

def cut100 (s : ByteArray) : ByteArray := s.extract 0 100
theorem cut100_size (s : ByteArray) : (cut100 s).size ≤ 100 := by unfold cut100; rw [ByteArray.size_extract]; omega
theorem cutJ_same (s : ByteArray) (w : World) :
    Calls Tryz.prog 21 #[.string s] w fun e w' => e = .returned (.string (cut100 s)) ∧ w' = w := by
  have hmin : (min (s.size : Int) 100) = ((min s.size 100 : Nat) : Int) := by omega
  have hle : ((min s.size 100 : Nat) : Int) ≤ (s.size : Int) := by omega
  have hC := hid (show cut100 s = s.extract 0 (min s.size 100) by
    unfold cut100
    rw [Lib.extract_upto, Lib.extract_upto]
    congr 2
    by_cases h : s.size ≤ 100
    · rw [Nat.min_eq_left h, List.take_of_length_le (by rw [← Lib.size_eq]; omega), List.take_of_length_le (by rw [← Lib.size_eq]; omega)]
    · rw [Nat.min_eq_right (by omega)])
  obtain ⟨m, hm⟩ : ∃ m, min s.size 100 = m := ⟨_, rfl⟩
  go_enter Tryz.func21, Tryz.ntmps21
  go_wp2
  go_ret
  exact ⟨by rw [hC.out, hm]; rfl, rfl⟩
def cutJ (t : TkI) : TkI := ⟨t.kind, t.str.take 100, t.at_⟩
def OwnI (w : World) (B : Nat) (v : Value) (ts : List TkI) : Prop := w.ownsRow B 39 3 v ts.length (ts.flatMap tkCellsI)
theorem OwnI.below {w w' : World} {B : Nat} {v : Value} {ts : List TkI} (h : OwnI w B v ts) (hb : Below w.heap.size w w') : OwnI w' B v ts := ownsRow_below h hb
theorem flat_atI : ∀ (ts : List TkI) (k : Nat), k < ts.length → (ts.flatMap tkCellsI)[k * 3]? = some (.int .i64 (ts.getD k ⟨0, [], 0⟩).kind) ∧ (ts.flatMap tkCellsI)[k * 3 + 1]? = some (.string ⟨(ts.getD k ⟨0, [], 0⟩).str.toArray⟩) ∧ (ts.flatMap tkCellsI)[k * 3 + 2]? = some (.int .i64 (ts.getD k ⟨0, [], 0⟩).at_)
  | [], k, h => by simp at h
  | t :: r, 0, h => ⟨rfl, rfl, rfl⟩
  | t :: r, k + 1, h => by
    have := flat_atI r k (by simpa using h)
    rw [List.flatMap_cons, show (k + 1) * 3 = 3 + k * 3 by omega]
    have e : ∀ j, (tkCellsI t ++ r.flatMap tkCellsI)[3 + j]? = (r.flatMap tkCellsI)[j]? := fun j => by
      rw [List.getElem?_append_right (by simp [tkCellsI])]; simp [tkCellsI]
    rw [show 3 + k * 3 + 1 = 3 + (k * 3 + 1) by omega, show 3 + k * 3 + 2 = 3 + (k * 3 + 2) by omega, e, e, e]
    exact this
theorem OwnI.sl {w : World} {B : Nat} {v : Value} {ts : List TkI} (h : OwnI w B v ts) : TokIn w v ts := by
  rcases h.2 with ⟨hv, h0⟩ | ⟨g, cap, cur, hv, _, hg, hnc, hcm, hsz, htake⟩
  · rw [hv]
    have : ts = [] := List.eq_nil_of_length_eq_zero h0
    subst this
    exact TokIn.nil w
  · refine ⟨some ⟨g, 0, none⟩, cap, hv, fun k hk => ⟨g, 0, rfl, (Array.getElem?_eq_some_iff.1 hg).1, ?_⟩⟩
    obtain ⟨f0, f1, f2⟩ := flat_atI ts k hk
    have hc : ∀ j u, (ts.flatMap tkCellsI)[j]? = some u → w.cell? ⟨g, 0 + j, none⟩ = some u := fun j u hu => by
      rw [Nat.zero_add, cell_of_row w g j cur 39 (0, 0) hg]
      rw [← htake, List.getElem?_take] at hu
      split at hu
      · rw [Array.getElem?_toList] at hu; exact hu
      · cases hu
    exact ⟨hc _ _ f0, hc _ _ f1, hc _ _ f2⟩
theorem cut100_list (l : List UInt8) : cut100 ⟨l.toArray⟩ = ⟨(l.take 100).toArray⟩ := by
  unfold cut100
  rw [Lib.extract_upto, toList_mk]
theorem map_takeJ {xs : List TkI} {k : Nat} (h : k < xs.length) : (xs.take (k + 1)).map cutJ = (xs.take k).map cutJ ++ [cutJ (xs.getD k ⟨0, [], 0⟩)] := by
  rw [List.take_succ_eq_append_getElem h, List.map_append]
  simp [List.getD, List.getElem?_eq_getElem h]

def FewPost16 (xs : List TkI) (w : World) (e : Ending) (w' : World) : Prop := ∃ u, e = .returned u ∧ OwnI w' w.heap.size u ((xs.take 60).map cutJ) ∧ Below w.heap.size w w'

set_option maxRecDepth 100000 in
set_option maxHeartbeats 8000000 in
theorem Few16_any (v : Value) (xs : List TkI) (w : World) (hx : TokIn w v xs) :
    Calls Tryz.prog 16 #[v] w (FewPost16 xs w) := by
  obtain ⟨A, ca, rfl, hA⟩ := hx
  obtain ⟨i0, hi, hz0, hz1, hz2⟩ := info_parts info_tok
  have hu : Tryz.prog.underlying 22 = some (.slice 39) := by kernel_rfl
  have HU := hid hu
  have HA := hid hA
  obtain ⟨n, hn⟩ : ∃ n, xs.length = n := ⟨_, rfl⟩
  rw [hn] at HA ⊢
  have HN := hid hn
  clear hA hu hn
  go_enter Tryz.func16, Tryz.ntmps16
  go_wp2
  go_loopw [3, 4] (fun o i wr => ∃ k : Nat, k ≤ n ∧ k ≤ 60 ∧ i = .int .i64 k ∧ OwnI wr w.heap.size o ((xs.take k).map cutJ) ∧ Below w.heap.size w wr) (fun _ i _ => 60 - (intOf i).toNat)
  case atStart => exact ⟨0, by omega, by omega, rfl, World.ownsRow_nil _ _ _ _, Below.refl _ _⟩
  case round =>
    obtain ⟨k, hk, hk60, rfl, hown, hb⟩ := hrel
    by_cases hlt : k < n ∧ k < 60
    · obtain ⟨hlt, hlt60⟩ := hlt
      have hki : (k : Int) < (n : Int) := by omega
      have hki60 : (k : Int) < 60 := by omega
      have hk0 : (0 : Int) ≤ (k : Int) := by omega
      obtain ⟨a, o, rfl, ha, a0, a1, a2⟩ := HA.out k hlt
      have hmt := map_takeJ (xs := xs) (k := k) (by rw [HN.out]; exact hlt)
      have hlen : ((xs.take k).map cutJ).length = k := by rw [List.length_map, List.length_take, HN.out]; omega
      obtain ⟨⟨k1, s1, p1⟩, hx⟩ : ∃ x, xs.getD k ⟨0, [], 0⟩ = x := ⟨_, rfl⟩
      rw [hx] at a0 a1 a2 hmt
      have HMT := hid hmt
      clear hx hmt
      obtain ⟨ts, hts⟩ : ∃ ts, (xs.take k).map cutJ = ts := ⟨_, rfl⟩
      rw [hts] at hown hlen HMT
      have HL := hid hlen
      clear hts hlen
      replace a0 := cell_below a0 hb
      replace a1 := cell_below a1 hb
      replace a2 := cell_below a2 hb
      have haw : a < wr.heap.size := Nat.lt_of_lt_of_le ha hb.size
      have hcut : ∀ wx, Calls Tryz.prog 21 #[.string ⟨s1.toArray⟩] wx fun e w' => e = .returned (.string ⟨(s1.take 100).toArray⟩) ∧ w' = wx := fun wx => by
        have h := cutJ_same ⟨s1.toArray⟩ wx
        rwa [cut100_list] at h
      have HCUT := hid hcut
      have hne : some a ≠ u3.ownBlock := fun h => by
        have := (World.ownsRow.lt hown a h.symm).1
        omega
      have HNE := hid hne
      have HOWN := hid hown
      clear hcut hne hown
      have hownD : wr.drew.ownsRow w.heap.size 39 3 u3 ts.length (ts.flatMap tkCellsI) := HOWN.out
      have hb63 : ts.length + 1 ≤ maxLen := by rw [HL.out]; unfold maxLen; omega
      have hb32 : (ts.length + 1) * 32 ≤ 140737488355328 := by rw [HL.out]; omega
      have hbs : w.heap.size ≤ wr.heap.size := hb.size
      have HD := hid (And.intro hownD (And.intro hb63 hb32))
      clear hownD hb63 hb32
      go_wp2
      go_region_held_law (fun w' => w'.cell? ⟨a, o + k * 3, none⟩ = some (.int .i64 k1) ∧ w'.cell? ⟨a, o + k * 3 + 1, none⟩ = some (.string ⟨s1.toArray⟩) ∧ w'.cell? ⟨a, o + k * 3 + 2, none⟩ = some (.int .i64 p1))
        (first | go_keep | (refine ⟨?_, ?_, ?_⟩ <;> (rw [hgrow.cell_far _ (by simp; omega) HNE.out]; go_keep)))
        (first
          | (go_at_call 21; refine (HCUT.out _).mono ?_; rintro e w9 ⟨rfl, hw9⟩; subst w9)
          | (refine step_append_lies _ (by rfl) _ _ _ (by rfl) w.heap.size 39 i0 (.agg #[.int .i64 0, .string ⟨#[]⟩, .int .i64 0]) 3 32 HU.out hi hz0 hz1 hz2 (by rfl) (by decide) _ _ _ (by rfl) (World.ownsRow.alloc HD.out.1 _) ⟨wr.heap.size, 0, none⟩ 1 1 [.int .i64 k1, .string ⟨(s1.take 100).toArray⟩, .int .i64 p1] (by rfl) (by rfl) (World.news_of_block (heap_alloc_new wr.drew _)) (by intro u hu; simp at hu; rcases hu with rfl | rfl | rfl <;> rfl) (by decide) HD.out.2.1 HD.out.2.2 (by simp; omega) (wr.heap.size + 1) (by simp) ?_; intro g cap w9 hown9 hgrow hat hlt9))
      have hown3 : OwnI w9 w.heap.size (.slice (some ⟨g, 0, none⟩) (ts.length + 1) cap) ((xs.take (k + 1)).map cutJ) := by
        rw [HMT.out]
        unfold OwnI
        rw [List.length_append, List.flatMap_append]
        simpa [tkCellsI, cutJ] using hown9
      have hb6 : Below w.heap.size w w9 := (hb.drew.alloc hbs _).grown hgrow (by simp; omega) (fun j hj => by have := (World.ownsRow.lt HOWN.out j hj).1; exact this)
      have HF := hid (And.intro hown3 hb6)
      clear hown9 hgrow hat hlt9 hown3 hb6 HD HOWN HCUT HNE hb a0 a1 a2
      go_wp2
      go_roundw
      case rel => exact ⟨k + 1, by omega, by omega, by go_num, HF.out.1, HF.out.2⟩
      case measure => simp [intOf]; omega
    · have HE := hid (show (xs.take k).map cutJ = (xs.take 60).map cutJ by
        by_cases h : k < n
        · rw [show k = 60 by omega]
        · rw [List.take_of_length_le (by rw [HN.out]; omega), List.take_of_length_le (show xs.length ≤ 60 by rw [HN.out]; omega)])
      have HO := hid hown
      clear hown
      by_cases h : k < n
      · have hki : (k : Int) < (n : Int) := by omega
        have hki60 : ¬ (k : Int) < 60 := by omega
        clear hlt
        go_wp2
        refine bodyPost_ret (v := u3) (by simp [results, Tryz.results16, go_sem]) rfl ?_
        exact ⟨u3, rfl, by rw [← HE.out]; exact HO.out, hb⟩
      · have hki : ¬ (k : Int) < (n : Int) := by omega
        clear hlt
        go_wp2
        refine bodyPost_ret (v := u3) (by simp [results, Tryz.results16, go_sem]) rfl ?_
        exact ⟨u3, rfl, by rw [← HE.out]; exact HO.out, hb⟩
end Go.Proofs.YtiinnnbpbnojgaaGreatDoor

/- What is proved: a tree that pieces say has nowhere more keys, or kids, than there are pieces. No program stands in it. -/
namespace Go.Proofs.YtiinnnbpbnojgaaGreatDoor
open Go Go.RowKit Go.Lib
set_option linter.unusedSimpArgs false
set_option linter.unusedVariables false

theorem sm_tr0 (M : Nat) : Sm M tr0 := by unfold tr0 Sm Sm.SmTs; exact ⟨Nat.zero_le _, Nat.zero_le _, trivial⟩
theorem sm_named {M : Nat} {t : Tr} (h : Sm M t) (s : List UInt8) : Sm M (t.named s) := by
  cases t
  unfold Tr.named
  unfold Sm at h ⊢
  exact h
theorem small (M : Nat) : ∀ N, N ≤ M → (∀ p v, p.length ≤ N → PV p v → Sm M v) ∧ (∀ p ts, p.length ≤ N → PI p ts → ts.length ≤ p.length ∧ Sm.SmTs M ts) ∧
    (∀ p ks ts, p.length ≤ N → PD p ks ts → ks.length ≤ p.length ∧ ts.length ≤ p.length ∧ Sm.SmTs M ts) ∧ (∀ p x v, p.length ≤ N → PP p x v → Sm M v)
  | 0, _ => ⟨fun p v hp h => by
      have h1 := (pv_head h).1
      have : p = [] := List.eq_nil_of_length_eq_zero (by omega)
      exact absurd this h1, fun p ts hp h => by
      have h1 := pi_pos h
      have : p = [] := List.eq_nil_of_length_eq_zero (by omega)
      exact absurd this h1, fun p ks ts hp h => by
      have h1 := pd_pos h
      have : p = [] := List.eq_nil_of_length_eq_zero (by omega)
      exact absurd this h1, fun p x v hp h => by
      have h1 := pp_pos h
      have : p = [] := List.eq_nil_of_length_eq_zero (by omega)
      exact absurd this h1⟩
  | N + 1, hN => by
    obtain ⟨hV, hI, hD, hP⟩ := small M N (by omega)
    have V : ∀ p v, p.length ≤ N + 1 → PV p v → Sm M v := fun p v hp h => by
      cases h with
      | key t h => unfold oneTr Sm Sm.SmTs; exact ⟨Nat.zero_le _, Nat.zero_le _, trivial⟩
      | ali t h => unfold refTr Sm Sm.SmTs; exact ⟨Nat.zero_le _, Nat.zero_le _, trivial⟩
      | nam t p v h _ _ hp' => exact sm_named (hV p v (by simp at hp; omega) hp') _
      | lst t p ts h hp' =>
        obtain ⟨h1, h2⟩ := hI p ts (by simp at hp; omega) hp'
        unfold seqTr Sm
        exact ⟨Nat.zero_le _, by simp at hp; omega, h2⟩
      | dic t p ks ts h hp' =>
        obtain ⟨h1, h2, h3⟩ := hD p ks ts (by simp at hp; omega) hp'
        unfold mapTr Sm
        exact ⟨by simp at hp; omega, by simp at hp; omega, h3⟩
    have P : ∀ p x v, p.length ≤ N + 1 → PP p x v → Sm M v := fun p x v hp h => by
      cases h with
      | none k c h hc => exact sm_tr0 M
      | some k c p v h hc hp' => exact hV p v (by simp at hp; omega) hp'
    refine ⟨V, fun p ts hp h => ?_, fun p ks ts hp h => ?_, P⟩
    · cases h with
      | nil c h => unfold Sm.SmTs; exact ⟨by simp, trivial⟩
      | last p v c hp' h =>
        have := V p v (by simp at hp; omega) hp'
        unfold Sm.SmTs Sm.SmTs
        exact ⟨by simp, this, trivial⟩
      | cons p v m q ts hp' h hq =>
        have h0 := V p v (by simp at hp; omega) hp'
        obtain ⟨h1, h2⟩ := hI q ts (by have := List.length_pos_iff.2 (pv_head hp').1; simp at hp; omega) hq
        rw [Sm.SmTs]
        exact ⟨by simp; omega, h0, h2⟩
    · cases h with
      | nil c h => unfold Sm.SmTs; exact ⟨by simp, by simp, trivial⟩
      | last p x v c hp' h =>
        have := P p x v (by simp at hp; omega) hp'
        unfold Sm.SmTs Sm.SmTs
        exact ⟨by simp, by simp, this, trivial⟩
      | cons p x v m q ks ts hp' h hq =>
        have h0 := P p x v (by simp at hp; omega) hp'
        obtain ⟨h1, h2, h3⟩ := hD q ks ts (by have := List.length_pos_iff.2 (pp_pos hp'); simp at hp; omega) hq
        rw [Sm.SmTs]
        exact ⟨by simp; omega, by simp; omega, h0, h3⟩
theorem sm_of {M : Nat} {p : List Pc} {v : Tr} (h : PV p v) (hp : p.length ≤ M) : Sm M v := (small M p.length hp).1 p v (Nat.le_refl _) h
end Go.Proofs.YtiinnnbpbnojgaaGreatDoor

/- What is proved: law 16's shown: what some lines say is known. -/
namespace Go.Proofs.YtiinnnbpbnojgaaGreatDoor
open Go Go.RowKit Go.Lib
set_option linter.unusedSimpArgs false
set_option linter.unusedVariables false

def toI (t : Tk) : TkI := ⟨t.kind, t.str, t.at_⟩
theorem TokSl.toIn {w : World} {v : Value} {ts : List Tk} (h : TokSl w v ts) : TokIn w v (ts.map toI) := by
  obtain ⟨A, cap, hv, hc⟩ := h
  refine ⟨A, cap, by rw [List.length_map]; exact hv, fun k hk => ?_⟩
  rw [List.length_map] at hk
  obtain ⟨b, o, ha, hlt, h0, h1, h2⟩ := hc k hk
  have e : (ts.map toI).getD k ⟨0, [], 0⟩ = toI (ts.getD k ⟨0, [], 0⟩) := by simp [List.getD, List.getElem?_eq_getElem hk]
  rw [e]
  exact ⟨b, o, ha, hlt, h0, h1, h2⟩
def lnA : List UInt8 := [123, 97, 58, 32, 91, 49, 44, 32, 42, 120, 93, 44, 32, 39, 98, 39, 58, 32, 125]
def lnB : List UInt8 := [91, 97, 32, 98]
def wantT : Tr := .mk 2 ⟨#[]⟩ sc0 [⟨3, 0, ⟨#[97]⟩⟩, ⟨3, 0, ⟨#[98]⟩⟩] [.mk 1 ⟨#[]⟩ sc0 [] [.mk 0 ⟨#[]⟩ ⟨2, 1, ⟨#[]⟩⟩ [] [], .mk 3 ⟨#[120]⟩ sc0 [] []], .mk 0 ⟨#[]⟩ sc0 [] []]
theorem rdA : (readT lnA).2 = (0, 0) := by kernel_rfl
theorem rdB : (readT lnB).2 = (0, 0) := by kernel_rfl
theorem whA : wholeW (pcs ((readT lnA).1.map toI)) = (wantT, 0) := by kernel_rfl
theorem whB : wholeW (pcs ((readT lnB).1.map toI)) = (tr0, 91) := by kernel_rfl
theorem lenA : (readT lnA).1.length = 12 := by kernel_rfl
theorem lenB : (readT lnB).1.length = 2 := by kernel_rfl
theorem smW : Sm 1000000 wantT := by
  unfold wantT
  simp [Sm, Sm.SmTs]
theorem keyT : keyR ⟨1, [116, 114, 117, 101]⟩ = (⟨1, 1, ⟨#[]⟩⟩, 0) := by kernel_rfl
theorem keyC : keyR ⟨7, []⟩ = (sc0, 91) := by kernel_rfl
theorem fxA : (((readT lnA).1.map toI).all fun t => decide (t.str.length ≤ 1000)) = true := by kernel_rfl
theorem fxB : (((readT lnB).1.map toI).all fun t => decide (t.str.length ≤ 1000)) = true := by kernel_rfl
theorem fx_of {ts : List TkI} (hl : ts.length ≤ 1000) (h : (ts.all fun t => decide (t.str.length ≤ 1000)) = true) : Fx ts := by
  refine ⟨by omega, fun q hq => ?_⟩
  have := List.all_eq_true.1 h (ts[q]) (List.getElem_mem hq)
  rw [List.getD, List.getElem?_eq_getElem hq]
  have := of_decide_eq_true this
  simp only [Option.getD_some]
  omega
theorem want_in {W : World} {k c1 c2 : Nat} (hk : W.heap[k]? = some (.cells #[.int .i64 3, .int .i64 0, .string ⟨#[97]⟩, .int .i64 3, .int .i64 0, .string ⟨#[98]⟩] 26))
    (h1 : W.heap[c1]? = some (.cells #[.int .i64 0, .string ⟨#[]⟩, .int .i64 2, .int .i64 1, .string ⟨#[]⟩, .slice none 0 0, .slice none 0 0, .int .i64 3, .string ⟨#[120]⟩, .int .i64 0, .int .i64 0, .string ⟨#[]⟩, .slice none 0 0, .slice none 0 0] 30))
    (h2 : W.heap[c2]? = some (.cells #[.int .i64 1, .string ⟨#[]⟩, .int .i64 0, .int .i64 0, .string ⟨#[]⟩, .slice none 0 0, .slice (some ⟨c1, 0, none⟩) 2 2, .int .i64 0, .string ⟨#[]⟩, .int .i64 0, .int .i64 0, .string ⟨#[]⟩, .slice none 0 0, .slice none 0 0] 30)) :
    TrIn W (fun _ => True) wantT (.agg #[.int .i64 2, .string ⟨#[]⟩, .int .i64 0, .int .i64 0, .string ⟨#[]⟩, .slice (some ⟨k, 0, none⟩) 2 2, .slice (some ⟨c2, 0, none⟩) 2 2]) := by
  have lk := (Array.getElem?_eq_some_iff.1 hk).1
  have l1 := (Array.getElem?_eq_some_iff.1 h1).1
  have l2 := (Array.getElem?_eq_some_iff.1 h2).1
  have one : ∀ x : Sc, TrIn W (fun _ => True) (.mk 0 ⟨#[]⟩ x [] []) (.agg #[.int .i64 0, .string ⟨#[]⟩, .int .i64 x.kind, .int .i64 x.num, .string x.str, .slice none 0 0, .slice none 0 0]) := fun x => TrIn.one W _ x
  have hx : TrIn W (fun _ => True) (.mk 3 ⟨#[120]⟩ sc0 [] []) (.agg #[.int .i64 3, .string ⟨#[120]⟩, .int .i64 0, .int .i64 0, .string ⟨#[]⟩, .slice none 0 0, .slice none 0 0]) := TrIn.ref W _ [120]
  have hseq : TrIn W (fun _ => True) (.mk 1 ⟨#[]⟩ sc0 [] [.mk 0 ⟨#[]⟩ ⟨2, 1, ⟨#[]⟩⟩ [] [], .mk 3 ⟨#[120]⟩ sc0 [] []]) (.agg #[.int .i64 1, .string ⟨#[]⟩, .int .i64 0, .int .i64 0, .string ⟨#[]⟩, .slice none 0 0, .slice (some ⟨c1, 0, none⟩) 2 2]) := by
    rw [TrIn]
    refine ⟨.slice none 0 0, some ⟨c1, 0, none⟩, 2, rfl, ScIn.nil W, From.nil _, ?_⟩
    rw [TrIn.TsIn, TrIn.TsIn, TrIn.TsIn]
    refine ⟨⟨c1, 0, _, rfl, trivial, l1, ⟨0, ⟨#[]⟩, ⟨2, 1, ⟨#[]⟩⟩, .slice none 0 0, .slice none 0 0, rfl, ?_, ?_, ?_, ?_, ?_, ?_, ?_⟩, one _⟩, ⟨c1, 0, _, rfl, trivial, l1, ⟨3, ⟨#[120]⟩, sc0, .slice none 0 0, .slice none 0 0, rfl, ?_, ?_, ?_, ?_, ?_, ?_, ?_⟩, hx⟩, trivial⟩ <;> simp [World.cell?, h1, sc0]
  unfold wantT
  rw [TrIn]
  refine ⟨.slice (some ⟨k, 0, none⟩) 2 2, some ⟨c2, 0, none⟩, 2, rfl, ⟨some ⟨k, 0, none⟩, 2, rfl, fun j hj => ⟨k, 0, rfl, lk, ?_⟩⟩, fun _ _ _ _ _ _ => trivial, ?_⟩
  · match j, hj with
    | 0, _ => simp [World.cell?, hk]
    | 1, _ => simp [World.cell?, hk]
  · rw [TrIn.TsIn, TrIn.TsIn, TrIn.TsIn]
    refine ⟨⟨c2, 0, _, rfl, trivial, l2, ⟨1, ⟨#[]⟩, sc0, .slice none 0 0, .slice (some ⟨c1, 0, none⟩) 2 2, rfl, ?_, ?_, ?_, ?_, ?_, ?_, ?_⟩, hseq⟩, ⟨c2, 0, _, rfl, trivial, l2, ⟨0, ⟨#[]⟩, sc0, .slice none 0 0, .slice none 0 0, rfl, ?_, ?_, ?_, ?_, ?_, ?_, ?_⟩, one _⟩, trivial⟩ <;> simp [World.cell?, h2, sc0]
end Go.Proofs.YtiinnnbpbnojgaaGreatDoor

/- What is proved: law 16's shown. -/
namespace Go.Proofs.YtiinnnbpbnojgaaGreatDoor
open Go Go.RowKit Go.Lib
set_option linter.unusedSimpArgs false
set_option linter.unusedVariables false

/-- Five blocks, one behind the other. -/
def Five (W : World) (m : Nat) (a b c d e : Obj) : Prop := W.heap[m]? = some a ∧ W.heap[m + 1]? = some b ∧ W.heap[m + 1 + 1]? = some c ∧ W.heap[m + 1 + 1 + 1]? = some d ∧ W.heap[m + 1 + 1 + 1 + 1]? = some e
theorem Five.below {W W' : World} {m : Nat} {a b c d e : Obj} (h : Five W m a b c d e) (hb : Below W.heap.size W W') : Five W' m a b c d e :=
  ⟨heap_below h.1 hb, heap_below h.2.1 hb, heap_below h.2.2.1 hb, heap_below h.2.2.2.1 hb, heap_below h.2.2.2.2 hb⟩
theorem Five.new (w : World) (a b c d e : Obj) : Five (((((w.alloc a).alloc b).alloc c).alloc d).alloc e) w.heap.size a b c d e ∧ Below w.heap.size w (((((w.alloc a).alloc b).alloc c).alloc d).alloc e) := by
  have st : ∀ (X : World) (o : Obj), Below X.heap.size X (X.alloc o) := fun X o => (Below.refl _ X).alloc (Nat.le_refl _) o
  have e2 := World.alloc_heap_new (w.alloc a) b
  have e3 := World.alloc_heap_new ((w.alloc a).alloc b) c
  have e4 := World.alloc_heap_new (((w.alloc a).alloc b).alloc c) d
  have e5 := World.alloc_heap_new ((((w.alloc a).alloc b).alloc c).alloc d) e
  simp only [World.size_alloc] at e2 e3 e4 e5
  refine ⟨⟨heap_below (heap_below (heap_below (heap_below (World.alloc_heap_new w a) (st _ _)) (st _ _)) (st _ _)) (st _ _), heap_below (heap_below (heap_below e2 (st _ _)) (st _ _)) (st _ _), heap_below (heap_below e3 (st _ _)) (st _ _), heap_below e4 (st _ _), e5⟩, ?_⟩
  exact ((((st w a).alloc (by simp) b).alloc (by simp; omega) c).alloc (by simp; omega) d).alloc (by simp; omega) e

set_option maxRecDepth 100000 in
set_option maxHeartbeats 8000000 in
theorem shown16_any (w : World) (hT : Tabs w) (hE : ErrTy w) :
    Calls Tryz.prog 15 #[] w fun e w' => e = .returned (.bool true) ∧ Below w.heap.size w w' := by
  have hR := fun s wx (hb : Below w.heap.size w wx) (hs : s.size ≤ 100000) => tReadc_any s wx hs (hT.below hb) (hE.below hb)
  have hH := fun v ts wx (hb : Below w.heap.size w wx) hx hv hc => Whole_any v ts wx hx hv hc (hT.below hb) (hE.below hb)
  have hK := fun k a s wx (hb : Below w.heap.size w wx) (hs : s.size ≤ 1000000) => Key_any k a s wx hs (hT.below hb)
  have heq : ∀ W, (binOp .eql 26 (.agg #[.int .i64 1, .int .i64 1, .string ⟨#[]⟩]) (.agg #[.int .i64 1, .int .i64 1, .string ⟨#[]⟩])).run Tryz.prog W = .ok (.bool true) W := fun W => by
    rw [eql_sc]; simp
  clear hT hE
  go_enter Tryz.func15, Tryz.ntmps15
  go_wp2_with fail
  refine (hR ⟨#[123, 97, 58, 32, 91, 49, 44, 32, 42, 120, 93, 44, 32, 39, 98, 39, 58, 32, 125]⟩ _ (Below.refl _ _) (by decide)).mono ?_
  rw [show readT (⟨#[123, 97, 58, 32, 91, 49, 44, 32, 42, 120, 93, 44, 32, 39, 98, 39, 58, 32, 125]⟩ : ByteArray).data.toList = ((readT lnA).1, 0, 0) from Prod.ext rfl rdA]
  rintro e w1 ⟨v1, rfl, hl1, hc1, hb1⟩
  go_wp2_with fail
  refine (hH v1 ((readT lnA).1.map toI) w1 hb1 (fx_of (by rw [List.length_map, lenA]; decide) fxA) hl1.toIn hc1).mono ?_
  rw [whA]
  rintro e w2 ⟨tv, rfl, htv, hb2⟩
  replace hb2 := hb1.trans (hb2.mono hb1.size)
  obtain ⟨tk, tnm, xk, xn, xs, KA0, kl, kc, TA, tl, tc, rfl⟩ := htv.form
  clear hb1 hl1 hc1
  obtain ⟨h5, hbA⟩ := Five.new w2 (.cells #[.int .i64 tk, .string tnm, .int .i64 xk, .int .i64 xn, .string xs, .slice KA0 kl kc, .slice TA tl tc] 30)
    (.cells #[.int .i64 3, .int .i64 0, .string ⟨#[97]⟩, .int .i64 3, .int .i64 0, .string ⟨#[98]⟩] 26)
    (.cells #[.int .i64 0, .string ⟨#[]⟩, .int .i64 2, .int .i64 1, .string ⟨#[]⟩, .slice none 0 0, .slice none 0 0, .int .i64 3, .string ⟨#[120]⟩, .int .i64 0, .int .i64 0, .string ⟨#[]⟩, .slice none 0 0, .slice none 0 0] 30)
    (.cells #[.int .i64 1, .string ⟨#[]⟩, .int .i64 0, .int .i64 0, .string ⟨#[]⟩, .slice none 0 0, .slice (some ⟨w2.heap.size + 1 + 1, 0, none⟩) 2 2, .int .i64 0, .string ⟨#[]⟩, .int .i64 0, .int .i64 0, .string ⟨#[]⟩, .slice none 0 0, .slice none 0 0] 30)
    (.cells #[.int .i64 2, .string ⟨#[]⟩, .int .i64 0, .int .i64 0, .string ⟨#[]⟩, .slice (some ⟨w2.heap.size + 1, 0, none⟩) 2 2, .slice (some ⟨w2.heap.size + 1 + 1 + 1, 0, none⟩) 2 2] 30)
  have hb3 := hb2.trans (hbA.mono hb2.size)
  have htv3 := htv.below hbA
  go_wp2_with fail
  refine (hR ⟨#[91, 97, 32, 98]⟩ _ hb3 (by decide)).mono ?_
  rw [show readT (⟨#[91, 97, 32, 98]⟩ : ByteArray).data.toList = ((readT lnB).1, 0, 0) from Prod.ext rfl rdB]
  rintro e w4 ⟨v4, rfl, hl4, hc4, hq4⟩
  replace h5 := h5.below hq4
  replace htv3 := htv3.below hq4
  have hb4 := hb3.trans (hq4.mono hb3.size)
  clear hq4 hb3 hbA htv
  go_wp2_with fail
  refine (hH v4 ((readT lnB).1.map toI) w4 hb4 (fx_of (by rw [List.length_map, lenB]; decide) fxB) hl4.toIn hc4).mono ?_
  rw [whB]
  rintro e w5 ⟨tv2, rfl, htv2, hq5⟩
  obtain ⟨uk, unm, yk, yn, ys, KB0, ul, uc, UA, vl, vc, rfl⟩ := htv2.form
  replace h5 := h5.below hq5
  replace htv3 := htv3.below hq5
  have hb5 := hb4.trans (hq5.mono hb4.size)
  have hqA : Below w5.heap.size w5 (w5.alloc (.cells #[.int .i64 uk, .string unm, .int .i64 yk, .int .i64 yn, .string ys, .slice KB0 ul uc, .slice UA vl vc] 30)) := (Below.refl _ _).alloc (Nat.le_refl _) _
  replace h5 := h5.below hqA
  replace htv3 := htv3.below hqA
  have hb6 := hb5.trans (hqA.mono hb5.size)
  clear hq5 hb4 hqA htv2 hl4 hc4 hb5 hR hH
  go_wp2_with fail
  refine (hK 1 0 ⟨#[116, 114, 117, 101]⟩ _ hb6 (by decide)).mono ?_
  rw [show keyR ⟨1, (⟨#[116, 114, 117, 101]⟩ : ByteArray).data.toList⟩ = (⟨1, 1, ⟨#[]⟩⟩, 0) from keyT]
  rintro e w7 ⟨rfl, hq7⟩
  unfold scV
  replace h5 := h5.below hq7
  replace htv3 := htv3.below hq7
  have hb7 := hb6.trans (hq7.mono hb6.size)
  have hqB : Below w7.heap.size w7 (w7.alloc (.cells #[.int .i64 1, .int .i64 1, .string ⟨#[]⟩] 26)) := (Below.refl _ _).alloc (Nat.le_refl _) _
  have hX := World.alloc_heap_new w7 (.cells #[.int .i64 1, .int .i64 1, .string ⟨#[]⟩] 26)
  replace h5 := h5.below hqB
  replace htv3 := htv3.below hqB
  have hb8 := hb7.trans (hqB.mono hb7.size)
  clear hq7 hqB hb6 hb7
  go_wp2_with fail
  refine (hK 7 0 ⟨#[]⟩ _ hb8 (by decide)).mono ?_
  rw [show keyR ⟨7, (⟨#[]⟩ : ByteArray).data.toList⟩ = (sc0, 91) from keyC]
  rintro e w9 ⟨rfl, hq9⟩
  unfold scV sc0
  replace h5 := h5.below hq9
  replace htv3 := htv3.below hq9
  replace hX := heap_below hX hq9
  have hb9 := hb8.trans (hq9.mono hb8.size)
  have hqC : Below w9.heap.size w9 (w9.alloc (.cells #[.int .i64 0, .int .i64 0, .string ⟨#[]⟩] 26)) := (Below.refl _ _).alloc (Nat.le_refl _) _
  replace h5 := h5.below hqC
  replace htv3 := htv3.below hqC
  replace hX := heap_below hX hqC
  have hb10 := hb9.trans (hqC.mono hb9.size)
  clear hq9 hqC hb8 hb9 hK
  have hS1 := same_eq wantT _ _ _ _ _ htv3 (want_in h5.2.1 h5.2.2.1 h5.2.2.2.1) smW
  obtain ⟨x0, x1, x2, x3, x4, x5, x6, _, _, _, _, _, _, _⟩ := blk7 h5.1
  obtain ⟨y0, y1, y2, y3, y4, y5, y6, _, _, _, _, _, _, _⟩ := blk7 h5.2.2.2.2
  go_wp2_with fail
  refine hS1.mono ?_
  rintro e w11 ⟨rfl, hq11⟩
  clear hS1 x0 x1 x2 x3 x4 x5 x6 y0 y1 y2 y3 y4 y5 y6
  replace h5 := h5.below hq11
  replace hX := heap_below hX hq11
  have hb11 := hb10.trans (hq11.mono hb10.size)
  have hkk : tk ≠ 0 := by
    have hh := htv3
    unfold wantT at hh
    rw [TrIn] at hh
    obtain ⟨_, _, _, hh, _⟩ := hh
    injection hh with hh
    simp at hh
    omega
  have hS2 := same_kind tk 0 tnm ⟨#[]⟩ xk xn 0 0 xs ⟨#[]⟩ KA0 none kl kc 0 0 TA none tl tc 0 0 w11 hkk
  clear hq11 htv3 hb10
  obtain ⟨x0, x1, x2, x3, x4, x5, x6, _, _, _, _, _, _, _⟩ := blk7 h5.1
  go_wp2_with fail
  refine hS2.mono ?_
  rintro e w12 ⟨rfl, hq12⟩
  replace hX := heap_below hX hq12
  have hb12 := hb11.trans (hq12.mono hb11.size)
  clear hS2 x0 x1 x2 x3 x4 x5 x6 h5 hq12 hb11
  obtain ⟨z0, z1, z2, _, _, _⟩ := blk3 hX
  have HB := hid hb12
  clear hb12
  go_wp2
  go_ret
  exact ⟨rfl, HB.out⟩
end Go.Proofs.YtiinnnbpbnojgaaGreatDoor
