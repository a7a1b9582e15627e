import Derived.Test.YtkdhaipjfkalfaaGreatDoorLgb
/- What is proved: the walk of ScalTells: it returns true whatever comes in. -/
namespace Go.Proofs.YtkdhaipjfkalfaaGreatDoor
open Go Go.RowKit Go.Lib Go.Sort
set_option linter.unusedSimpArgs false
set_option linter.unusedVariables false

namespace WScalTells
/-- A scalar stored into its block: any other block, and what lay. -/
theorem put3_other {W : World} {b c : Nat} {o : Obj} (h : W.heap[c]? = some o) (hne : c ≠ b) (v0 v1 v2 : Value) :
    (((W.setCell ⟨b, 0, none⟩ v0).setCell ⟨b, 1, none⟩ v1).setCell ⟨b, 2, none⟩ v2).heap[c]? = some o :=
  (Below.heap_setCell _ ⟨b, 2, none⟩ v2 c hne).trans ((Below.heap_setCell _ ⟨b, 1, none⟩ v1 c hne).trans ((Below.heap_setCell W ⟨b, 0, none⟩ v0 c hne).trans h))
theorem put3_below {w W : World} {n b : Nat} (h : Below n w W) (hb : n ≤ b) (v0 v1 v2 : Value) :
    Below n w (((W.setCell ⟨b, 0, none⟩ v0).setCell ⟨b, 1, none⟩ v1).setCell ⟨b, 2, none⟩ v2) :=
  ((h.setCell (p := ⟨b, 0, none⟩) hb v0).setCell (p := ⟨b, 1, none⟩) hb v1).setCell (p := ⟨b, 2, none⟩) hb v2
theorem bstep {w W W' : World} {N : Nat} (hN : w.heap.size = N) (h : Below N w W) (hb : Below W.heap.size W W') : Below N w W' := h.trans (hb.mono (by have := h.size; omega))
theorem ball (W : World) (o : Obj) : Below W.heap.size W (W.alloc o) := (Below.refl _ W).alloc (Nat.le_refl _) o
end WScalTells
open WScalTells

set_option maxRecDepth 100000 in
set_option maxHeartbeats 16000000 in
theorem ScalTells_any (k1 n1 : Int) (s1 : ByteArray) (k2 n2 : Int) (s2 : ByteArray) (s : ByteArray) (w : World) (hT : Tabs w) :
    Calls Tryz.prog 3 #[.agg #[.int .i64 k1, .int .i64 n1, .string s1], .agg #[.int .i64 k2, .int .i64 n2, .string s2], .string s] w fun e w' => e = .returned (.bool true) ∧ Below w.heap.size w w' := by
  obtain ⟨N, hN⟩ : ∃ N, w.heap.size = N := ⟨_, rfl⟩
  have hTT : ∀ {wx}, Below N w wx → Tabs wx := fun hx => hT.below (hN ▸ hx)
  have hSH := fun wx hx => shown_any wx (hTT hx)
  have hCs := fun wx => cut_same s wx
  have hC1 : ∀ wx, Calls Tryz.prog 12 #[.agg #[.int .i64 k1, .int .i64 n1, .string s1]] wx fun e w' => e = .returned (.agg #[.int .i64 k1, .int .i64 n1, .string (cut6 s1)]) ∧ Below wx.heap.size wx w' := fun wx => Cut_any ⟨k1, n1, s1⟩ wx
  have z1 := cut6_size s1
  obtain ⟨t1, ht1⟩ : ∃ t, cut6 s1 = t := ⟨_, rfl⟩
  rw [ht1] at hC1 z1
  have HC1 := hid hC1
  clear hC1 ht1
  have hC2 : ∀ wx, Calls Tryz.prog 12 #[.agg #[.int .i64 k2, .int .i64 n2, .string s2]] wx fun e w' => e = .returned (.agg #[.int .i64 k2, .int .i64 n2, .string (cut6 s2)]) ∧ Below wx.heap.size wx w' := fun wx => Cut_any ⟨k2, n2, s2⟩ wx
  have z2 := cut6_size s2
  obtain ⟨t2, ht2⟩ : ∃ t, cut6 s2 = t := ⟨_, rfl⟩
  rw [ht2] at hC2 z2
  have HC2 := hid hC2
  clear hC2 ht2
  have z := cut6_size s
  obtain ⟨t, ht⟩ : ∃ t, cut6 s = t := ⟨_, rfl⟩
  rw [ht] at hCs z
  have HCS := hid hCs
  clear hCs ht
  have HSH := hid hSH
  clear hSH
  have hTx := fun wx (hx : Below N w wx) => scText_any ⟨k1, n1, t1⟩ wx (by show t1.size ≤ _; omega) (hTT hx)
  have hTr := fun wx => refText_any ⟨k1, n1, t1⟩ wx (by show t1.size ≤ _; omega)
  have hRx := fun wx (hx : Below N w wx) => scRead_any t wx (by omega) (hTT hx)
  have hRr := fun wx => refRead06_any t wx (by omega)
  have hCm : ∀ wx, Calls Tryz.prog 18 #[.agg #[.int .i64 k1, .int .i64 n1, .string t1], .agg #[.int .i64 k2, .int .i64 n2, .string t2]] wx fun e w' => e = .returned (.int .i64 (cmpSc ⟨k1, n1, t1⟩ ⟨k2, n2, t2⟩)) ∧ Below wx.heap.size wx w' := fun wx => (compare_any ⟨k1, n1, t1⟩ ⟨k2, n2, t2⟩ wx).mono fun e w' h => ⟨h.1, h.2.below⟩
  have hCr : ∀ wx, Calls Tryz.prog 19 #[.agg #[.int .i64 k1, .int .i64 n1, .string t1], .agg #[.int .i64 k2, .int .i64 n2, .string t2]] wx fun e w' => e = .returned (.int .i64 (cmpSc ⟨k1, n1, t1⟩ ⟨k2, n2, t2⟩)) ∧ Below wx.heap.size wx w' := fun wx => refCompare_any ⟨k1, n1, t1⟩ ⟨k2, n2, t2⟩ wx
  unfold textV scV at hTx hTr
  unfold readSV scV at hRx hRr
  obtain ⟨c, hc⟩ : ∃ c, cmpSc ⟨k1, n1, t1⟩ ⟨k2, n2, t2⟩ = c := ⟨_, rfl⟩
  rw [hc] at hCm hCr
  obtain ⟨⟨X, er⟩, hx⟩ : ∃ r, textP ⟨k1, n1, t1⟩ = r := ⟨_, rfl⟩
  rw [hx] at hTx hTr
  obtain ⟨⟨⟨k3, n3, t3⟩, e3⟩, hr⟩ : ∃ r, readS t = r := ⟨_, rfl⟩
  rw [hr] at hRx hRr
  have HTX := hid hTx
  have HTR := hid hTr
  have HRX := hid hRx
  have HRR := hid hRr
  have HCM := hid hCm
  have HCR := hid hCr
  clear hTx hTr hRx hRr hCm hCr hc hx hr z1 z2 z
  have hB : Below N w ((w.alloc (.cells #[.int .i64 k1, .int .i64 n1, .string s1] 23)).alloc (.cells #[.int .i64 k2, .int .i64 n2, .string s2] 23)) := ((Below.refl N w).alloc (by omega) _).alloc (by simp; omega) _
  have hx1 := World.alloc_heap_new w (.cells #[.int .i64 k1, .int .i64 n1, .string s1] 23)
  replace hx1 := heap_below hx1 (ball _ (.cells #[.int .i64 k2, .int .i64 n2, .string s2] 23))
  simp only [World.size_alloc, hN] at hx1
  have hx2 := World.alloc_heap_new (w.alloc (.cells #[.int .i64 k1, .int .i64 n1, .string s1] 23)) (.cells #[.int .i64 k2, .int .i64 n2, .string s2] 23)
  simp only [World.size_alloc, hN] at hx2
  clear hT hTT
  go_enter Tryz.func3, Tryz.ntmps3
  obtain ⟨c00, c01, c02, c03, c04, c05⟩ := blk3 hx1
  obtain ⟨c10, c11, c12, c13, c14, c15⟩ := blk3 hx2
  go_wp2_with fail
  refine (HSH.out _ hB).mono ?_
  rintro e w1 ⟨rfl, hb⟩
  replace hB := bstep hN hB hb
  replace hx1 := heap_below hx1 hb
  replace hx2 := heap_below hx2 hb
  clear hb
  clear c00 c01 c02 c03 c04 c05 c10 c11 c12 c13 c14 c15
  obtain ⟨c00, c01, c02, c03, c04, c05⟩ := blk3 hx1
  obtain ⟨c10, c11, c12, c13, c14, c15⟩ := blk3 hx2
  go_wp2_with fail
  refine (HC1.out _).mono ?_
  rintro e w2 ⟨rfl, hb⟩
  replace hB := bstep hN hB hb
  replace hx1 := heap_below hx1 hb
  replace hx2 := heap_below hx2 hb
  clear hb
  clear c00 c01 c02 c03 c04 c05 c10 c11 c12 c13 c14 c15
  obtain ⟨p0, p1, p2, p3, p4, p5⟩ := blk3 hx1
  replace hx1 := set_blk3 hx1 (.int .i64 k1) (.int .i64 n1) (.string t1)
  replace hx2 := put3_other hx2 (b := N) (by omega) (.int .i64 k1) (.int .i64 n1) (.string t1)
  replace hB := put3_below hB (b := N) (by omega) (.int .i64 k1) (.int .i64 n1) (.string t1)
  obtain ⟨c00, c01, c02, c03, c04, c05⟩ := blk3 hx1
  obtain ⟨c10, c11, c12, c13, c14, c15⟩ := blk3 hx2
  go_wp2_with fail
  refine (HC2.out _).mono ?_
  rintro e w3 ⟨rfl, hb⟩
  replace hB := bstep hN hB hb
  replace hx1 := heap_below hx1 hb
  replace hx2 := heap_below hx2 hb
  clear hb
  clear c00 c01 c02 c03 c04 c05 c10 c11 c12 c13 c14 c15 p0 p1 p2 p3 p4 p5
  obtain ⟨p0, p1, p2, p3, p4, p5⟩ := blk3 hx2
  replace hx1 := put3_other hx1 (b := N + 1) (by omega) (.int .i64 k2) (.int .i64 n2) (.string t2)
  replace hx2 := set_blk3 hx2 (.int .i64 k2) (.int .i64 n2) (.string t2)
  replace hB := put3_below hB (b := N + 1) (by omega) (.int .i64 k2) (.int .i64 n2) (.string t2)
  obtain ⟨c00, c01, c02, c03, c04, c05⟩ := blk3 hx1
  obtain ⟨c10, c11, c12, c13, c14, c15⟩ := blk3 hx2
  go_wp2_with fail
  refine (HCS.out _).mono ?_
  rintro e w4 ⟨rfl, hw⟩
  subst w4
  clear c00 c01 c02 c03 c04 c05 c10 c11 c12 c13 c14 c15 p0 p1 p2 p3 p4 p5
  obtain ⟨c00, c01, c02, c03, c04, c05⟩ := blk3 hx1
  obtain ⟨c10, c11, c12, c13, c14, c15⟩ := blk3 hx2
  go_wp2_with fail
  refine (HTX.out _ hB).mono ?_
  rintro e w5 ⟨rfl, hb⟩
  replace hB := bstep hN hB hb
  replace hx1 := heap_below hx1 hb
  replace hx2 := heap_below hx2 hb
  clear hb
  clear c00 c01 c02 c03 c04 c05 c10 c11 c12 c13 c14 c15
  obtain ⟨c00, c01, c02, c03, c04, c05⟩ := blk3 hx1
  obtain ⟨c10, c11, c12, c13, c14, c15⟩ := blk3 hx2
  go_wp2_with fail
  refine (HTR.out _).mono ?_
  rintro e w6 ⟨rfl, hb⟩
  replace hB := bstep hN hB hb
  replace hx1 := heap_below hx1 hb
  replace hx2 := heap_below hx2 hb
  clear hb
  clear c00 c01 c02 c03 c04 c05 c10 c11 c12 c13 c14 c15
  obtain ⟨c00, c01, c02, c03, c04, c05⟩ := blk3 hx1
  obtain ⟨c10, c11, c12, c13, c14, c15⟩ := blk3 hx2
  go_wp2_with fail
  refine (HRX.out _ hB).mono ?_
  rintro e w7 ⟨rfl, hb⟩
  replace hB := bstep hN hB hb
  replace hx1 := heap_below hx1 hb
  replace hx2 := heap_below hx2 hb
  clear hb
  clear c00 c01 c02 c03 c04 c05 c10 c11 c12 c13 c14 c15
  obtain ⟨C1, hC1⟩ : ∃ r, w7.heap.size = r := ⟨_, rfl⟩
  have hx3 := World.alloc_heap_new w7 (.cells #[.int .i64 k3, .int .i64 n3, .string t3] 23)
  rw [hC1] at hx3
  replace hB := bstep hN hB (ball w7 (.cells #[.int .i64 k3, .int .i64 n3, .string t3] 23))
  replace hx1 := heap_below hx1 (ball w7 (.cells #[.int .i64 k3, .int .i64 n3, .string t3] 23))
  replace hx2 := heap_below hx2 (ball w7 (.cells #[.int .i64 k3, .int .i64 n3, .string t3] 23))
  obtain ⟨c00, c01, c02, c03, c04, c05⟩ := blk3 hx1
  obtain ⟨c10, c11, c12, c13, c14, c15⟩ := blk3 hx2
  obtain ⟨c20, c21, c22, c23, c24, c25⟩ := blk3 hx3
  go_wp2_with fail
  refine (HRR.out _).mono ?_
  rintro e w8 ⟨rfl, hb⟩
  replace hB := bstep hN hB hb
  replace hx1 := heap_below hx1 hb
  replace hx2 := heap_below hx2 hb
  replace hx3 := heap_below hx3 hb
  clear hb
  clear c00 c01 c02 c03 c04 c05 c10 c11 c12 c13 c14 c15 c20 c21 c22 c23 c24 c25
  obtain ⟨C2, hC2⟩ : ∃ r, w8.heap.size = r := ⟨_, rfl⟩
  have hx4 := World.alloc_heap_new w8 (.cells #[.int .i64 k3, .int .i64 n3, .string t3] 23)
  rw [hC2] at hx4
  replace hB := bstep hN hB (ball w8 (.cells #[.int .i64 k3, .int .i64 n3, .string t3] 23))
  replace hx1 := heap_below hx1 (ball w8 (.cells #[.int .i64 k3, .int .i64 n3, .string t3] 23))
  replace hx2 := heap_below hx2 (ball w8 (.cells #[.int .i64 k3, .int .i64 n3, .string t3] 23))
  replace hx3 := heap_below hx3 (ball w8 (.cells #[.int .i64 k3, .int .i64 n3, .string t3] 23))
  obtain ⟨c00, c01, c02, _⟩ := blk3 hx1
  obtain ⟨c10, c11, c12, _⟩ := blk3 hx2
  obtain ⟨c20, c21, c22, _⟩ := blk3 hx3
  obtain ⟨c30, c31, c32, _⟩ := blk3 hx4
  have hS : (fun w' => w'.cell? ⟨N, 0, none⟩ = some (.int .i64 k1) ∧ w'.cell? ⟨N, 1, none⟩ = some (.int .i64 n1) ∧ w'.cell? ⟨N, 2, none⟩ = some (.string t1) ∧ w'.cell? ⟨N + 1, 0, none⟩ = some (.int .i64 k2) ∧ w'.cell? ⟨N + 1, 1, none⟩ = some (.int .i64 n2) ∧ w'.cell? ⟨N + 1, 2, none⟩ = some (.string t2) ∧ w'.cell? ⟨C1, 0, none⟩ = some (.int .i64 k3) ∧ w'.cell? ⟨C1, 1, none⟩ = some (.int .i64 n3) ∧ w'.cell? ⟨C1, 2, none⟩ = some (.string t3) ∧ w'.cell? ⟨C2, 0, none⟩ = some (.int .i64 k3) ∧ w'.cell? ⟨C2, 1, none⟩ = some (.int .i64 n3) ∧ w'.cell? ⟨C2, 2, none⟩ = some (.string t3)) (w8.alloc (.cells #[.int .i64 k3, .int .i64 n3, .string t3] 23)) := ⟨c00, c01, c02, c10, c11, c12, c20, c21, c22, c30, c31, c32⟩
  have KEEP := hid (fun Y (hY : HB2 w (w8.alloc (.cells #[.int .i64 k3, .int .i64 n3, .string t3] 23)) Y) => (show (fun w' => w'.cell? ⟨N, 0, none⟩ = some (.int .i64 k1) ∧ w'.cell? ⟨N, 1, none⟩ = some (.int .i64 n1) ∧ w'.cell? ⟨N, 2, none⟩ = some (.string t1) ∧ w'.cell? ⟨N + 1, 0, none⟩ = some (.int .i64 k2) ∧ w'.cell? ⟨N + 1, 1, none⟩ = some (.int .i64 n2) ∧ w'.cell? ⟨N + 1, 2, none⟩ = some (.string t2) ∧ w'.cell? ⟨C1, 0, none⟩ = some (.int .i64 k3) ∧ w'.cell? ⟨C1, 1, none⟩ = some (.int .i64 n3) ∧ w'.cell? ⟨C1, 2, none⟩ = some (.string t3) ∧ w'.cell? ⟨C2, 0, none⟩ = some (.int .i64 k3) ∧ w'.cell? ⟨C2, 1, none⟩ = some (.int .i64 n3) ∧ w'.cell? ⟨C2, 2, none⟩ = some (.string t3)) Y from by
      obtain ⟨g0, g1, g2, g3, g4, g5, g6, g7, g8, g9, g10, g11⟩ := hS
      exact ⟨cell_below g0 hY.2, cell_below g1 hY.2, cell_below g2 hY.2, cell_below g3 hY.2, cell_below g4 hY.2, cell_below g5 hY.2, cell_below g6 hY.2, cell_below g7 hY.2, cell_below g8 hY.2, cell_below g9 hY.2, cell_below g10 hY.2, cell_below g11 hY.2⟩))
  have hH : HB2 w (w8.alloc (.cells #[.int .i64 k3, .int .i64 n3, .string t3] 23)) (w8.alloc (.cells #[.int .i64 k3, .int .i64 n3, .string t3] 23)) := ⟨by rw [hN]; exact hB, Below.refl _ _⟩
  clear hS c00 c01 c02 c10 c11 c12 c20 c21 c22 c30 c31 c32
  go_wp2
  replace hH := hH.drew
  refine wp_region_noPanic ?_
  refine wp_region_held_drew (S := (fun w' => w'.cell? ⟨N, 0, none⟩ = some (.int .i64 k1) ∧ w'.cell? ⟨N, 1, none⟩ = some (.int .i64 n1) ∧ w'.cell? ⟨N, 2, none⟩ = some (.string t1) ∧ w'.cell? ⟨N + 1, 0, none⟩ = some (.int .i64 k2) ∧ w'.cell? ⟨N + 1, 1, none⟩ = some (.int .i64 n2) ∧ w'.cell? ⟨N + 1, 2, none⟩ = some (.string t2) ∧ w'.cell? ⟨C1, 0, none⟩ = some (.int .i64 k3) ∧ w'.cell? ⟨C1, 1, none⟩ = some (.int .i64 n3) ∧ w'.cell? ⟨C1, 2, none⟩ = some (.string t3) ∧ w'.cell? ⟨C2, 0, none⟩ = some (.int .i64 k3) ∧ w'.cell? ⟨C2, 1, none⟩ = some (.int .i64 n3) ∧ w'.cell? ⟨C2, 2, none⟩ = some (.string t3))) (by kernel_rfl) ?_ (fun hHeld => ?_)
  · (try dsimp only); exact KEEP.out _ hH
  refine wpAnyH_take (i := 0) (v := ?_) rfl (by kernel_rfl) (by kernel_rfl) (by kernel_rfl) (fun _ _ _ h => h) (Or.inl ⟨by rfl, ?_⟩) hHeld ?_
  rotate_left
  · intro w hSw; (try dsimp only at hSw); (try simp only [List.getElem_toArray, List.getElem_cons_succ, List.getElem_cons_zero]); go_simp; (try with_reducible rfl)
  try simp only [Act.put, List.getElem_toArray, List.getElem_cons_succ, List.getElem_cons_zero, List.setIfInBounds_toArray, List.set_cons_zero, List.set_cons_succ]
  refine wpAnyH_take (i := 1) (v := ?_) rfl (by kernel_rfl) (by kernel_rfl) (by kernel_rfl) (fun _ _ _ h => h) (Or.inl ⟨by rfl, ?_⟩) hHeld ?_
  rotate_left
  · intro w hSw; (try dsimp only at hSw); (try simp only [List.getElem_toArray, List.getElem_cons_succ, List.getElem_cons_zero]); go_simp; (try with_reducible rfl)
  try simp only [Act.put, List.getElem_toArray, List.getElem_cons_succ, List.getElem_cons_zero, List.setIfInBounds_toArray, List.set_cons_zero, List.set_cons_succ]
  refine wpAnyH_take (i := 2) (v := ?_) rfl (by kernel_rfl) (by kernel_rfl) (by kernel_rfl) (fun _ _ _ h => h) (Or.inl ⟨by rfl, ?_⟩) hHeld ?_
  rotate_left
  · intro w hSw; (try dsimp only at hSw); (try simp only [List.getElem_toArray, List.getElem_cons_succ, List.getElem_cons_zero]); go_simp; (try with_reducible rfl)
  try simp only [Act.put, List.getElem_toArray, List.getElem_cons_succ, List.getElem_cons_zero, List.setIfInBounds_toArray, List.set_cons_zero, List.set_cons_succ]
  refine wpAnyH_take (i := 3) (v := ?_) rfl (by kernel_rfl) (by kernel_rfl) (by kernel_rfl) (fun _ _ _ h => h) (Or.inl ⟨by rfl, ?_⟩) hHeld ?_
  rotate_left
  · intro w hSw; (try dsimp only at hSw); (try simp only [List.getElem_toArray, List.getElem_cons_succ, List.getElem_cons_zero]); go_simp; (try with_reducible rfl)
  try simp only [Act.put, List.getElem_toArray, List.getElem_cons_succ, List.getElem_cons_zero, List.setIfInBounds_toArray, List.set_cons_zero, List.set_cons_succ]
  refine wpAnyH_take (i := 5) (v := ?_) rfl (by kernel_rfl) (by kernel_rfl) (by kernel_rfl) (fun _ _ _ h => h) (Or.inl ⟨by rfl, ?_⟩) hHeld ?_
  rotate_left
  · intro w hSw; (try dsimp only at hSw); (try simp only [List.getElem_toArray, List.getElem_cons_succ, List.getElem_cons_zero]); go_simp; (try with_reducible rfl)
  try simp only [Act.put, List.getElem_toArray, List.getElem_cons_succ, List.getElem_cons_zero, List.setIfInBounds_toArray, List.set_cons_zero, List.set_cons_succ]
  refine wpAnyH_take (i := 6) (v := ?_) rfl (by kernel_rfl) (by kernel_rfl) (by kernel_rfl) (fun _ _ _ h => h) (Or.inl ⟨by rfl, ?_⟩) hHeld ?_
  rotate_left
  · intro w hSw; (try dsimp only at hSw); (try simp only [List.getElem_toArray, List.getElem_cons_succ, List.getElem_cons_zero]); go_simp; (try with_reducible rfl)
  try simp only [Act.put, List.getElem_toArray, List.getElem_cons_succ, List.getElem_cons_zero, List.setIfInBounds_toArray, List.set_cons_zero, List.set_cons_succ]
  refine wpAnyH_ready (rs := [4]) (by kernel_rfl) (by simp) ?_
  refine AllReadyH.cons rfl (fun K hK => ?_) AllReadyH.nil
  go_simp
  refine (HCM.out _).mono ?_
  rintro e wz ⟨rfl, hbz⟩
  replace hH := hH.step hbz
  clear hbz
  try go_wp2_with fail
  refine hK.out _ _ ?_ (fun hHeld2 => ?_)
  · (try dsimp only); exact KEEP.out _ hH
  clear hK K hHeld
  have hHeld := hHeld2; clear hHeld2
  try simp only [Act.put, List.getElem_toArray, List.getElem_cons_succ, List.getElem_cons_zero, List.setIfInBounds_toArray, List.set_cons_zero, List.set_cons_succ]
  refine wpAnyH_ready (rs := [7]) (by kernel_rfl) (by simp) ?_
  refine AllReadyH.cons rfl (fun K hK => ?_) AllReadyH.nil
  go_simp
  refine (HCR.out _).mono ?_
  rintro e wz ⟨rfl, hbz⟩
  replace hH := hH.step hbz
  clear hbz
  try go_wp2_with fail
  refine hK.out _ _ ?_ (fun hHeld2 => ?_)
  · (try dsimp only); exact KEEP.out _ hH
  clear hK K hHeld
  have hHeld := hHeld2; clear hHeld2
  try simp only [Act.put, List.getElem_toArray, List.getElem_cons_succ, List.getElem_cons_zero, List.setIfInBounds_toArray, List.set_cons_zero, List.set_cons_succ]
  refine wpAnyH_take (i := 8) (v := ?_) rfl (by kernel_rfl) (by kernel_rfl) (by kernel_rfl) (fun _ _ _ h => h) (Or.inl ⟨by rfl, ?_⟩) hHeld ?_
  rotate_left
  · intro w hSw; (try dsimp only at hSw); (try simp only [List.getElem_toArray, List.getElem_cons_succ, List.getElem_cons_zero]); go_simp; (try with_reducible rfl)
  try simp only [Act.put, List.getElem_toArray, List.getElem_cons_succ, List.getElem_cons_zero, List.setIfInBounds_toArray, List.set_cons_zero, List.set_cons_succ]
  refine wpAnyH_take (i := 9) (v := ?_) rfl (by kernel_rfl) (by kernel_rfl) (by kernel_rfl) (fun _ _ _ h => h) (Or.inl ⟨by rfl, ?_⟩) hHeld ?_
  rotate_left
  · intro w hSw; (try dsimp only at hSw); (try simp only [List.getElem_toArray, List.getElem_cons_succ, List.getElem_cons_zero]); go_simp; (try with_reducible rfl)
  try simp only [Act.put, List.getElem_toArray, List.getElem_cons_succ, List.getElem_cons_zero, List.setIfInBounds_toArray, List.set_cons_zero, List.set_cons_succ]
  refine wpAnyH_take (i := 10) (v := ?_) rfl (by kernel_rfl) (by kernel_rfl) (by kernel_rfl) (fun _ _ _ h => h) (Or.inl ⟨by rfl, ?_⟩) hHeld ?_
  rotate_left
  · intro w hSw; (try dsimp only at hSw); (try simp only [List.getElem_toArray, List.getElem_cons_succ, List.getElem_cons_zero]); go_simp; (try with_reducible rfl)
  try simp only [Act.put, List.getElem_toArray, List.getElem_cons_succ, List.getElem_cons_zero, List.setIfInBounds_toArray, List.set_cons_zero, List.set_cons_succ]
  refine wpAnyH_take (i := 11) (v := ?_) rfl (by kernel_rfl) (by kernel_rfl) (by kernel_rfl) (fun _ _ _ h => h) (Or.inl ⟨by rfl, ?_⟩) hHeld ?_
  rotate_left
  · intro w hSw; (try dsimp only at hSw); (try simp only [List.getElem_toArray, List.getElem_cons_succ, List.getElem_cons_zero]); go_simp; (try with_reducible rfl)
  try simp only [Act.put, List.getElem_toArray, List.getElem_cons_succ, List.getElem_cons_zero, List.setIfInBounds_toArray, List.set_cons_zero, List.set_cons_succ]
  refine wpAnyH_take (i := 12) (v := ?_) rfl (by kernel_rfl) (by kernel_rfl) (by kernel_rfl) (fun _ _ _ h => h) (Or.inl ⟨by rfl, ?_⟩) hHeld ?_
  rotate_left
  · intro w hSw; (try dsimp only at hSw); (try simp only [List.getElem_toArray, List.getElem_cons_succ, List.getElem_cons_zero]); go_simp; (try with_reducible rfl)
  try simp only [Act.put, List.getElem_toArray, List.getElem_cons_succ, List.getElem_cons_zero, List.setIfInBounds_toArray, List.set_cons_zero, List.set_cons_succ]
  refine wpAnyH_take (i := 13) (v := ?_) rfl (by kernel_rfl) (by kernel_rfl) (by kernel_rfl) (fun _ _ _ h => h) (Or.inl ⟨by rfl, ?_⟩) hHeld ?_
  rotate_left
  · intro w hSw; (try dsimp only at hSw); (try simp only [List.getElem_toArray, List.getElem_cons_succ, List.getElem_cons_zero]); go_simp; (try with_reducible rfl)
  try simp only [Act.put, List.getElem_toArray, List.getElem_cons_succ, List.getElem_cons_zero, List.setIfInBounds_toArray, List.set_cons_zero, List.set_cons_succ]
  refine wpAnyH_take (i := 14) (v := ?_) rfl (by kernel_rfl) (by kernel_rfl) (by kernel_rfl) (fun _ _ _ h => h) (Or.inl ⟨by rfl, ?_⟩) hHeld ?_
  rotate_left
  · intro w hSw; (try dsimp only at hSw); (try simp only [List.getElem_toArray, List.getElem_cons_succ, List.getElem_cons_zero]); go_simp; (try with_reducible rfl)
  try simp only [Act.put, List.getElem_toArray, List.getElem_cons_succ, List.getElem_cons_zero, List.setIfInBounds_toArray, List.set_cons_zero, List.set_cons_succ]
  refine wpAnyH_take (i := 15) (v := ?_) rfl (by kernel_rfl) (by kernel_rfl) (by kernel_rfl) (fun _ _ _ h => h) (Or.inl ⟨by rfl, ?_⟩) hHeld ?_
  rotate_left
  · intro w hSw; (try dsimp only at hSw); (try simp only [List.getElem_toArray, List.getElem_cons_succ, List.getElem_cons_zero]); go_simp; (try with_reducible rfl)
  try simp only [Act.put, List.getElem_toArray, List.getElem_cons_succ, List.getElem_cons_zero, List.setIfInBounds_toArray, List.set_cons_zero, List.set_cons_succ]
  refine wpAnyH_take (i := 16) (v := ?_) rfl (by kernel_rfl) (by kernel_rfl) (by kernel_rfl) (fun _ _ _ h => h) (Or.inl ⟨by rfl, ?_⟩) hHeld ?_
  rotate_left
  · intro w hSw; (try dsimp only at hSw); (try simp only [List.getElem_toArray, List.getElem_cons_succ, List.getElem_cons_zero]); go_simp; (try with_reducible rfl)
  try simp only [Act.put, List.getElem_toArray, List.getElem_cons_succ, List.getElem_cons_zero, List.setIfInBounds_toArray, List.set_cons_zero, List.set_cons_succ]
  refine wpAnyH_take (i := 17) (v := ?_) rfl (by kernel_rfl) (by kernel_rfl) (by kernel_rfl) (fun _ _ _ h => h) (Or.inl ⟨by rfl, ?_⟩) hHeld ?_
  rotate_left
  · intro w hSw; (try dsimp only at hSw); (try simp only [List.getElem_toArray, List.getElem_cons_succ, List.getElem_cons_zero]); go_simp; (try with_reducible rfl)
  try simp only [Act.put, List.getElem_toArray, List.getElem_cons_succ, List.getElem_cons_zero, List.setIfInBounds_toArray, List.set_cons_zero, List.set_cons_succ]
  refine wpAnyH_take (i := 18) (v := ?_) rfl (by kernel_rfl) (by kernel_rfl) (by kernel_rfl) (fun _ _ _ h => h) (Or.inl ⟨by rfl, ?_⟩) hHeld ?_
  rotate_left
  · intro w hSw; (try dsimp only at hSw); (try simp only [List.getElem_toArray, List.getElem_cons_succ, List.getElem_cons_zero]); go_simp; (try with_reducible rfl)
  try simp only [Act.put, List.getElem_toArray, List.getElem_cons_succ, List.getElem_cons_zero, List.setIfInBounds_toArray, List.set_cons_zero, List.set_cons_succ]
  refine wpAnyH_take (i := 19) (v := ?_) rfl (by kernel_rfl) (by kernel_rfl) (by kernel_rfl) (fun _ _ _ h => h) (Or.inl ⟨by rfl, ?_⟩) hHeld ?_
  rotate_left
  · intro w hSw; (try dsimp only at hSw); (try simp only [List.getElem_toArray, List.getElem_cons_succ, List.getElem_cons_zero]); go_simp; (try with_reducible rfl)
  try simp only [Act.put, List.getElem_toArray, List.getElem_cons_succ, List.getElem_cons_zero, List.setIfInBounds_toArray, List.set_cons_zero, List.set_cons_succ]
  refine wpAnyH_take (i := 20) (v := ?_) rfl (by kernel_rfl) (by kernel_rfl) (by kernel_rfl) (fun _ _ _ h => h) (Or.inl ⟨by rfl, ?_⟩) hHeld ?_
  rotate_left
  · intro w hSw; (try dsimp only at hSw); (try simp only [List.getElem_toArray, List.getElem_cons_succ, List.getElem_cons_zero]); go_simp; (try with_reducible rfl)
  try simp only [Act.put, List.getElem_toArray, List.getElem_cons_succ, List.getElem_cons_zero, List.setIfInBounds_toArray, List.set_cons_zero, List.set_cons_succ]
  refine wpAnyH_take (i := 21) (v := ?_) rfl (by kernel_rfl) (by kernel_rfl) (by kernel_rfl) (fun _ _ _ h => h) (Or.inl ⟨by rfl, ?_⟩) hHeld ?_
  rotate_left
  · intro w hSw; (try dsimp only at hSw); (try simp only [List.getElem_toArray, List.getElem_cons_succ, List.getElem_cons_zero]); go_simp; (try with_reducible rfl)
  try simp only [Act.put, List.getElem_toArray, List.getElem_cons_succ, List.getElem_cons_zero, List.setIfInBounds_toArray, List.set_cons_zero, List.set_cons_succ]
  refine wpAnyH_take (i := 22) (v := ?_) rfl (by kernel_rfl) (by kernel_rfl) (by kernel_rfl) (fun _ _ _ h => h) (Or.inl ⟨by rfl, ?_⟩) hHeld ?_
  rotate_left
  · intro w hSw; (try dsimp only at hSw); (try simp only [List.getElem_toArray, List.getElem_cons_succ, List.getElem_cons_zero]); go_simp; (try with_reducible rfl)
  try simp only [Act.put, List.getElem_toArray, List.getElem_cons_succ, List.getElem_cons_zero, List.setIfInBounds_toArray, List.set_cons_zero, List.set_cons_succ]
  refine wpAnyH_take (i := 23) (v := ?_) rfl (by kernel_rfl) (by kernel_rfl) (by kernel_rfl) (fun _ _ _ h => h) (Or.inl ⟨by rfl, ?_⟩) hHeld ?_
  rotate_left
  · intro w hSw; (try dsimp only at hSw); (try simp only [List.getElem_toArray, List.getElem_cons_succ, List.getElem_cons_zero]); go_simp; (try with_reducible rfl)
  try simp only [Act.put, List.getElem_toArray, List.getElem_cons_succ, List.getElem_cons_zero, List.setIfInBounds_toArray, List.set_cons_zero, List.set_cons_succ]
  refine wpAnyH_take (i := 24) (v := ?_) rfl (by kernel_rfl) (by kernel_rfl) (by kernel_rfl) (fun _ _ _ h => h) (Or.inl ⟨by rfl, ?_⟩) hHeld ?_
  rotate_left
  · intro w hSw; (try dsimp only at hSw); (try simp only [List.getElem_toArray, List.getElem_cons_succ, List.getElem_cons_zero]); go_simp; (try with_reducible rfl)
  try simp only [Act.put, List.getElem_toArray, List.getElem_cons_succ, List.getElem_cons_zero, List.setIfInBounds_toArray, List.set_cons_zero, List.set_cons_succ]
  refine wpAnyH_take (i := 25) (v := ?_) rfl (by kernel_rfl) (by kernel_rfl) (by kernel_rfl) (fun _ _ _ h => h) (Or.inl ⟨by rfl, ?_⟩) hHeld ?_
  rotate_left
  · intro w hSw; (try dsimp only at hSw); (try simp only [List.getElem_toArray, List.getElem_cons_succ, List.getElem_cons_zero]); go_simp; (try with_reducible rfl)
  try simp only [Act.put, List.getElem_toArray, List.getElem_cons_succ, List.getElem_cons_zero, List.setIfInBounds_toArray, List.set_cons_zero, List.set_cons_succ]
  refine wpAnyH_take (i := 26) (v := ?_) rfl (by kernel_rfl) (by kernel_rfl) (by kernel_rfl) (fun _ _ _ h => h) (Or.inl ⟨by rfl, ?_⟩) hHeld ?_
  rotate_left
  · intro w hSw; (try dsimp only at hSw); (try simp only [List.getElem_toArray, List.getElem_cons_succ, List.getElem_cons_zero]); go_simp; (try with_reducible rfl)
  try simp only [Act.put, List.getElem_toArray, List.getElem_cons_succ, List.getElem_cons_zero, List.setIfInBounds_toArray, List.set_cons_zero, List.set_cons_succ]
  refine wpAnyH_take (i := 27) (v := ?_) rfl (by kernel_rfl) (by kernel_rfl) (by kernel_rfl) (fun _ _ _ h => h) (Or.inl ⟨by rfl, ?_⟩) hHeld ?_
  rotate_left
  · intro w hSw; (try dsimp only at hSw); (try simp only [List.getElem_toArray, List.getElem_cons_succ, List.getElem_cons_zero]); go_simp; (try with_reducible rfl)
  try simp only [Act.put, List.getElem_toArray, List.getElem_cons_succ, List.getElem_cons_zero, List.setIfInBounds_toArray, List.set_cons_zero, List.set_cons_succ]
  refine wpAnyH_take (i := 28) (v := ?_) rfl (by kernel_rfl) (by kernel_rfl) (by kernel_rfl) (fun _ _ _ h => h) (Or.inl ⟨by rfl, ?_⟩) hHeld ?_
  rotate_left
  · intro w hSw; (try dsimp only at hSw); (try simp only [List.getElem_toArray, List.getElem_cons_succ, List.getElem_cons_zero]); go_simp; (try with_reducible rfl)
  try simp only [Act.put, List.getElem_toArray, List.getElem_cons_succ, List.getElem_cons_zero, List.setIfInBounds_toArray, List.set_cons_zero, List.set_cons_succ]
  refine wpAnyH_take (i := 29) (v := ?_) rfl (by kernel_rfl) (by kernel_rfl) (by kernel_rfl) (fun _ _ _ h => h) (Or.inl ⟨by rfl, ?_⟩) hHeld ?_
  rotate_left
  · intro w hSw; (try dsimp only at hSw); (try simp only [List.getElem_toArray, List.getElem_cons_succ, List.getElem_cons_zero]); go_simp; (try with_reducible rfl)
  try simp only [Act.put, List.getElem_toArray, List.getElem_cons_succ, List.getElem_cons_zero, List.setIfInBounds_toArray, List.set_cons_zero, List.set_cons_succ]
  refine wpAnyH_take (i := 30) (v := ?_) rfl (by kernel_rfl) (by kernel_rfl) (by kernel_rfl) (fun _ _ _ h => h) (Or.inl ⟨by rfl, ?_⟩) hHeld ?_
  rotate_left
  · intro w hSw; (try dsimp only at hSw); (try simp only [List.getElem_toArray, List.getElem_cons_succ, List.getElem_cons_zero]); go_simp; (try with_reducible rfl)
  try simp only [Act.put, List.getElem_toArray, List.getElem_cons_succ, List.getElem_cons_zero, List.setIfInBounds_toArray, List.set_cons_zero, List.set_cons_succ]
  refine wpAnyH_done (by kernel_rfl) ?_ _
  refine NoPanic.normal ?_
  have HFIN := hid hH
  clear hH
  go_wp2
  go_ret
  exact ⟨rfl, HFIN.out.1⟩
end Go.Proofs.YtkdhaipjfkalfaaGreatDoor
