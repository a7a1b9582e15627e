import Derived.Test.YtkdhaipjfkalfaaGreatDoorLgb
/- What is proved: the walk of ScalOrder: it returns true whatever comes in. -/
namespace Go.Proofs.YtkdhaipjfkalfaaGreatDoor
open Go Go.RowKit Go.Lib Go.Sort
set_option linter.unusedSimpArgs false
set_option linter.unusedVariables false

namespace WScalOrder
/-- A scalar stored into its block: any other block, and what lay. -/
theorem put3_other {W : World} {b c : Nat} {o : Obj} (h : W.heap[c]? = some o) (hne : c ≠ b) (v0 v1 v2 : Value) :
    (((W.setCell ⟨b, 0, none⟩ v0).setCell ⟨b, 1, none⟩ v1).setCell ⟨b, 2, none⟩ v2).heap[c]? = some o :=
  (Below.heap_setCell _ ⟨b, 2, none⟩ v2 c hne).trans ((Below.heap_setCell _ ⟨b, 1, none⟩ v1 c hne).trans ((Below.heap_setCell W ⟨b, 0, none⟩ v0 c hne).trans h))
theorem put3_below {w W : World} {n b : Nat} (h : Below n w W) (hb : n ≤ b) (v0 v1 v2 : Value) :
    Below n w (((W.setCell ⟨b, 0, none⟩ v0).setCell ⟨b, 1, none⟩ v1).setCell ⟨b, 2, none⟩ v2) :=
  ((h.setCell (p := ⟨b, 0, none⟩) hb v0).setCell (p := ⟨b, 1, none⟩) hb v1).setCell (p := ⟨b, 2, none⟩) hb v2
theorem bstep {w W W' : World} {N : Nat} (hN : w.heap.size = N) (h : Below N w W) (hb : Below W.heap.size W W') : Below N w W' := h.trans (hb.mono (by have := h.size; omega))
theorem ball (W : World) (o : Obj) : Below W.heap.size W (W.alloc o) := (Below.refl _ W).alloc (Nat.le_refl _) o
end WScalOrder
open WScalOrder

set_option maxRecDepth 100000 in
set_option maxHeartbeats 16000000 in
theorem ScalOrder_any (k1 n1 : Int) (s1 : ByteArray) (k2 n2 : Int) (s2 : ByteArray) (k3 n3 : Int) (s3 : ByteArray) (w : World) (hT : Tabs w) :
    Calls Tryz.prog 6 #[.agg #[.int .i64 k1, .int .i64 n1, .string s1], .agg #[.int .i64 k2, .int .i64 n2, .string s2], .agg #[.int .i64 k3, .int .i64 n3, .string s3]] w fun e w' => e = .returned (.bool true) ∧ Below w.heap.size w w' := by
  obtain ⟨N, hN⟩ : ∃ N, w.heap.size = N := ⟨_, rfl⟩
  have hTT : ∀ {wx}, Below N w wx → Tabs wx := fun hx => hT.below (hN ▸ hx)
  have hSH := fun wx hx => shown_any wx (hTT hx)
  have hCs := fun wx => cut_same ⟨#[]⟩ wx
  have hC1 : ∀ wx, Calls Tryz.prog 12 #[.agg #[.int .i64 k1, .int .i64 n1, .string s1]] wx fun e w' => e = .returned (.agg #[.int .i64 k1, .int .i64 n1, .string (cut6 s1)]) ∧ Below wx.heap.size wx w' := fun wx => Cut_any ⟨k1, n1, s1⟩ wx
  have z1 := cut6_size s1
  obtain ⟨t1, ht1⟩ : ∃ t, cut6 s1 = t := ⟨_, rfl⟩
  rw [ht1] at hC1 z1
  have HC1 := hid hC1
  clear hC1 ht1
  have hC2 : ∀ wx, Calls Tryz.prog 12 #[.agg #[.int .i64 k2, .int .i64 n2, .string s2]] wx fun e w' => e = .returned (.agg #[.int .i64 k2, .int .i64 n2, .string (cut6 s2)]) ∧ Below wx.heap.size wx w' := fun wx => Cut_any ⟨k2, n2, s2⟩ wx
  have z2 := cut6_size s2
  obtain ⟨t2, ht2⟩ : ∃ t, cut6 s2 = t := ⟨_, rfl⟩
  rw [ht2] at hC2 z2
  have HC2 := hid hC2
  clear hC2 ht2
  have hC3 : ∀ wx, Calls Tryz.prog 12 #[.agg #[.int .i64 k3, .int .i64 n3, .string s3]] wx fun e w' => e = .returned (.agg #[.int .i64 k3, .int .i64 n3, .string (cut6 s3)]) ∧ Below wx.heap.size wx w' := fun wx => Cut_any ⟨k3, n3, s3⟩ wx
  have z3 := cut6_size s3
  obtain ⟨t3, ht3⟩ : ∃ t, cut6 s3 = t := ⟨_, rfl⟩
  rw [ht3] at hC3 z3
  have HC3 := hid hC3
  clear hC3 ht3
  clear hCs
  have HSH := hid hSH
  clear hSH
  have hxy : ∀ wx, Calls Tryz.prog 18 #[.agg #[.int .i64 k1, .int .i64 n1, .string t1], .agg #[.int .i64 k2, .int .i64 n2, .string t2]] wx fun e w' => e = .returned (.int .i64 (cmpSc ⟨k1, n1, t1⟩ ⟨k2, n2, t2⟩)) ∧ Below wx.heap.size wx w' := fun wx => (compare_any ⟨k1, n1, t1⟩ ⟨k2, n2, t2⟩ wx).mono fun e w' h => ⟨h.1, h.2.below⟩
  have hyz : ∀ wx, Calls Tryz.prog 18 #[.agg #[.int .i64 k2, .int .i64 n2, .string t2], .agg #[.int .i64 k3, .int .i64 n3, .string t3]] wx fun e w' => e = .returned (.int .i64 (cmpSc ⟨k2, n2, t2⟩ ⟨k3, n3, t3⟩)) ∧ Below wx.heap.size wx w' := fun wx => (compare_any ⟨k2, n2, t2⟩ ⟨k3, n3, t3⟩ wx).mono fun e w' h => ⟨h.1, h.2.below⟩
  have hxz : ∀ wx, Calls Tryz.prog 18 #[.agg #[.int .i64 k1, .int .i64 n1, .string t1], .agg #[.int .i64 k3, .int .i64 n3, .string t3]] wx fun e w' => e = .returned (.int .i64 (cmpSc ⟨k1, n1, t1⟩ ⟨k3, n3, t3⟩)) ∧ Below wx.heap.size wx w' := fun wx => (compare_any ⟨k1, n1, t1⟩ ⟨k3, n3, t3⟩ wx).mono fun e w' h => ⟨h.1, h.2.below⟩
  have hyx : ∀ wx, Calls Tryz.prog 18 #[.agg #[.int .i64 k2, .int .i64 n2, .string t2], .agg #[.int .i64 k1, .int .i64 n1, .string t1]] wx fun e w' => e = .returned (.int .i64 (cmpSc ⟨k2, n2, t2⟩ ⟨k1, n1, t1⟩)) ∧ Below wx.heap.size wx w' := fun wx => (compare_any ⟨k2, n2, t2⟩ ⟨k1, n1, t1⟩ wx).mono fun e w' h => ⟨h.1, h.2.below⟩
  have hxx : ∀ wx, Calls Tryz.prog 18 #[.agg #[.int .i64 k1, .int .i64 n1, .string t1], .agg #[.int .i64 k1, .int .i64 n1, .string t1]] wx fun e w' => e = .returned (.int .i64 (cmpSc ⟨k1, n1, t1⟩ ⟨k1, n1, t1⟩)) ∧ Below wx.heap.size wx w' := fun wx => (compare_any ⟨k1, n1, t1⟩ ⟨k1, n1, t1⟩ wx).mono fun e w' h => ⟨h.1, h.2.below⟩
  have hE := fun wx => eql_sc k1 n1 k2 n2 t1 t2 wx
  have hbe := sc_eq ⟨k1, n1, t1⟩ ⟨k2, n2, t2⟩
  have heq := good_Sc.eq ⟨k1, n1, t1⟩ ⟨k2, n2, t2⟩
  have hsy := good_Sc.sym ⟨k1, n1, t1⟩ ⟨k2, n2, t2⟩
  have hra := good_Sc.rng ⟨k1, n1, t1⟩ ⟨k2, n2, t2⟩
  have hrb := good_Sc.rng ⟨k2, n2, t2⟩ ⟨k3, n3, t3⟩
  have hrc := good_Sc.rng ⟨k1, n1, t1⟩ ⟨k3, n3, t3⟩
  have hol := order_law good_Sc ⟨k1, n1, t1⟩ ⟨k2, n2, t2⟩ ⟨k3, n3, t3⟩
  rw [hol.2.2.2] at hxx
  rw [hsy] at hyx
  simp only at hbe
  obtain ⟨a, ha⟩ : ∃ c, cmpSc ⟨k1, n1, t1⟩ ⟨k2, n2, t2⟩ = c := ⟨_, rfl⟩
  obtain ⟨b, hb⟩ : ∃ c, cmpSc ⟨k2, n2, t2⟩ ⟨k3, n3, t3⟩ = c := ⟨_, rfl⟩
  obtain ⟨c, hc⟩ : ∃ c, cmpSc ⟨k1, n1, t1⟩ ⟨k3, n3, t3⟩ = c := ⟨_, rfl⟩
  rw [ha] at hxy hyx heq hra hol
  rw [hb] at hyz hrb hol
  rw [hc] at hxz hrc hol
  obtain ⟨bb, hbb⟩ : ∃ bb, ((k1 : Int) == (k2 : Int) && ((n1 : Int) == (n2 : Int) && t1.toList == t2.toList)) = bb := ⟨_, rfl⟩
  rw [hbb] at hE hbe
  have hz : ((a : Int) == 0) = bb := by
    rw [hbe, Bool.eq_iff_iff]; simp only [beq_iff_eq, decide_eq_true_eq]; exact heq
  have hp : (0 < a) ∨ (0 ≤ a ∧ ¬ 0 < a ∧ 0 < b) ∨ (0 ≤ a ∧ ¬ 0 < a ∧ ¬ 0 < b ∧ c ≤ 0) ∨ (a < 0 ∧ 0 < b) ∨ (a < 0 ∧ ¬ 0 < b ∧ 0 ≤ b ∧ c ≤ 0) ∨ (a < 0 ∧ b < 0 ∧ c < 0) := by
    obtain ⟨_, h2, h3, _⟩ := hol; omega
  have HP := hid hp
  have HZ := hid hz
  have HE := hid hE
  have hr1 : -1 ≤ a := by omega
  have hr2 : a ≤ 1 := by omega
  have HXY := hid hxy
  have HYZ := hid hyz
  have HXZ := hid hxz
  have HYX := hid hyx
  have HXX := hid hxx
  clear hxy hyz hxz hyx hxx ha hb hc hbb hbe heq hsy hra hrb hrc hol hz hp hE z1 z2 z3
  have hB : Below N w (((w.alloc (.cells #[.int .i64 k1, .int .i64 n1, .string s1] 23)).alloc (.cells #[.int .i64 k2, .int .i64 n2, .string s2] 23)).alloc (.cells #[.int .i64 k3, .int .i64 n3, .string s3] 23)) := (((Below.refl N w).alloc (by omega) _).alloc (by simp; omega) _).alloc (by simp; omega) _
  have hx1 := World.alloc_heap_new w (.cells #[.int .i64 k1, .int .i64 n1, .string s1] 23)
  replace hx1 := heap_below hx1 (ball _ (.cells #[.int .i64 k2, .int .i64 n2, .string s2] 23))
  replace hx1 := heap_below hx1 (ball _ (.cells #[.int .i64 k3, .int .i64 n3, .string s3] 23))
  simp only [World.size_alloc, hN] at hx1
  have hx2 := World.alloc_heap_new (w.alloc (.cells #[.int .i64 k1, .int .i64 n1, .string s1] 23)) (.cells #[.int .i64 k2, .int .i64 n2, .string s2] 23)
  replace hx2 := heap_below hx2 (ball _ (.cells #[.int .i64 k3, .int .i64 n3, .string s3] 23))
  simp only [World.size_alloc, hN] at hx2
  have hx3 := World.alloc_heap_new ((w.alloc (.cells #[.int .i64 k1, .int .i64 n1, .string s1] 23)).alloc (.cells #[.int .i64 k2, .int .i64 n2, .string s2] 23)) (.cells #[.int .i64 k3, .int .i64 n3, .string s3] 23)
  simp only [World.size_alloc, hN] at hx3
  clear hT hTT
  go_enter Tryz.func6, Tryz.ntmps6
  obtain ⟨c00, c01, c02, c03, c04, c05⟩ := blk3 hx1
  obtain ⟨c10, c11, c12, c13, c14, c15⟩ := blk3 hx2
  obtain ⟨c20, c21, c22, c23, c24, c25⟩ := blk3 hx3
  go_wp2_with fail
  refine (HSH.out _ hB).mono ?_
  rintro e w1 ⟨rfl, hb⟩
  replace hB := bstep hN hB hb
  replace hx1 := heap_below hx1 hb
  replace hx2 := heap_below hx2 hb
  replace hx3 := heap_below hx3 hb
  clear hb
  clear c00 c01 c02 c03 c04 c05 c10 c11 c12 c13 c14 c15 c20 c21 c22 c23 c24 c25
  obtain ⟨c00, c01, c02, c03, c04, c05⟩ := blk3 hx1
  obtain ⟨c10, c11, c12, c13, c14, c15⟩ := blk3 hx2
  obtain ⟨c20, c21, c22, c23, c24, c25⟩ := blk3 hx3
  go_wp2_with fail
  refine (HC1.out _).mono ?_
  rintro e w2 ⟨rfl, hb⟩
  replace hB := bstep hN hB hb
  replace hx1 := heap_below hx1 hb
  replace hx2 := heap_below hx2 hb
  replace hx3 := heap_below hx3 hb
  clear hb
  clear c00 c01 c02 c03 c04 c05 c10 c11 c12 c13 c14 c15 c20 c21 c22 c23 c24 c25
  obtain ⟨p0, p1, p2, p3, p4, p5⟩ := blk3 hx1
  replace hx1 := set_blk3 hx1 (.int .i64 k1) (.int .i64 n1) (.string t1)
  replace hx2 := put3_other hx2 (b := N) (by omega) (.int .i64 k1) (.int .i64 n1) (.string t1)
  replace hx3 := put3_other hx3 (b := N) (by omega) (.int .i64 k1) (.int .i64 n1) (.string t1)
  replace hB := put3_below hB (b := N) (by omega) (.int .i64 k1) (.int .i64 n1) (.string t1)
  obtain ⟨c00, c01, c02, c03, c04, c05⟩ := blk3 hx1
  obtain ⟨c10, c11, c12, c13, c14, c15⟩ := blk3 hx2
  obtain ⟨c20, c21, c22, c23, c24, c25⟩ := blk3 hx3
  go_wp2_with fail
  refine (HC2.out _).mono ?_
  rintro e w3 ⟨rfl, hb⟩
  replace hB := bstep hN hB hb
  replace hx1 := heap_below hx1 hb
  replace hx2 := heap_below hx2 hb
  replace hx3 := heap_below hx3 hb
  clear hb
  clear c00 c01 c02 c03 c04 c05 c10 c11 c12 c13 c14 c15 c20 c21 c22 c23 c24 c25 p0 p1 p2 p3 p4 p5
  obtain ⟨p0, p1, p2, p3, p4, p5⟩ := blk3 hx2
  replace hx1 := put3_other hx1 (b := N + 1) (by omega) (.int .i64 k2) (.int .i64 n2) (.string t2)
  replace hx2 := set_blk3 hx2 (.int .i64 k2) (.int .i64 n2) (.string t2)
  replace hx3 := put3_other hx3 (b := N + 1) (by omega) (.int .i64 k2) (.int .i64 n2) (.string t2)
  replace hB := put3_below hB (b := N + 1) (by omega) (.int .i64 k2) (.int .i64 n2) (.string t2)
  obtain ⟨c00, c01, c02, c03, c04, c05⟩ := blk3 hx1
  obtain ⟨c10, c11, c12, c13, c14, c15⟩ := blk3 hx2
  obtain ⟨c20, c21, c22, c23, c24, c25⟩ := blk3 hx3
  go_wp2_with fail
  refine (HC3.out _).mono ?_
  rintro e w4 ⟨rfl, hb⟩
  replace hB := bstep hN hB hb
  replace hx1 := heap_below hx1 hb
  replace hx2 := heap_below hx2 hb
  replace hx3 := heap_below hx3 hb
  clear hb
  clear c00 c01 c02 c03 c04 c05 c10 c11 c12 c13 c14 c15 c20 c21 c22 c23 c24 c25 p0 p1 p2 p3 p4 p5
  obtain ⟨p0, p1, p2, p3, p4, p5⟩ := blk3 hx3
  replace hx1 := put3_other hx1 (b := N + 1 + 1) (by omega) (.int .i64 k3) (.int .i64 n3) (.string t3)
  replace hx2 := put3_other hx2 (b := N + 1 + 1) (by omega) (.int .i64 k3) (.int .i64 n3) (.string t3)
  replace hx3 := set_blk3 hx3 (.int .i64 k3) (.int .i64 n3) (.string t3)
  replace hB := put3_below hB (b := N + 1 + 1) (by omega) (.int .i64 k3) (.int .i64 n3) (.string t3)
  obtain ⟨c00, c01, c02, c03, c04, c05⟩ := blk3 hx1
  obtain ⟨c10, c11, c12, c13, c14, c15⟩ := blk3 hx2
  obtain ⟨c20, c21, c22, c23, c24, c25⟩ := blk3 hx3
  go_wp2_with fail
  refine (HXY.out _).mono ?_
  rintro e w5 ⟨rfl, hb⟩
  replace hB := bstep hN hB hb
  replace hx1 := heap_below hx1 hb
  replace hx2 := heap_below hx2 hb
  replace hx3 := heap_below hx3 hb
  clear hb
  clear c00 c01 c02 c03 c04 c05 c10 c11 c12 c13 c14 c15 c20 c21 c22 c23 c24 c25 p0 p1 p2 p3 p4 p5
  obtain ⟨c00, c01, c02, c03, c04, c05⟩ := blk3 hx1
  obtain ⟨c10, c11, c12, c13, c14, c15⟩ := blk3 hx2
  obtain ⟨c20, c21, c22, c23, c24, c25⟩ := blk3 hx3
  go_wp2_with fail
  refine (HYZ.out _).mono ?_
  rintro e w6 ⟨rfl, hb⟩
  replace hB := bstep hN hB hb
  replace hx1 := heap_below hx1 hb
  replace hx2 := heap_below hx2 hb
  replace hx3 := heap_below hx3 hb
  clear hb
  clear c00 c01 c02 c03 c04 c05 c10 c11 c12 c13 c14 c15 c20 c21 c22 c23 c24 c25
  obtain ⟨c00, c01, c02, c03, c04, c05⟩ := blk3 hx1
  obtain ⟨c10, c11, c12, c13, c14, c15⟩ := blk3 hx2
  obtain ⟨c20, c21, c22, c23, c24, c25⟩ := blk3 hx3
  go_wp2_with fail
  refine (HXZ.out _).mono ?_
  rintro e w7 ⟨rfl, hb⟩
  replace hB := bstep hN hB hb
  replace hx1 := heap_below hx1 hb
  replace hx2 := heap_below hx2 hb
  replace hx3 := heap_below hx3 hb
  clear hb
  clear c00 c01 c02 c03 c04 c05 c10 c11 c12 c13 c14 c15 c20 c21 c22 c23 c24 c25
  have hz := HZ.out
  have hE := HE.out
  have hp := HP.out
  rcases hp with p1 | ⟨p1, p2, p3⟩ | ⟨p1, p2, p3, p4⟩ | ⟨p1, p2⟩ | ⟨p1, p2, p3, p4⟩ | ⟨p1, p2, p3⟩
  all_goals
    obtain ⟨c00, c01, c02, c03, c04, c05⟩ := blk3 hx1
    obtain ⟨c10, c11, c12, c13, c14, c15⟩ := blk3 hx2
    obtain ⟨c20, c21, c22, c23, c24, c25⟩ := blk3 hx3
    go_wp2_with fail
    refine (HYX.out _).mono ?_
    rintro e w8 ⟨rfl, hb⟩
    replace hB := bstep hN hB hb
    replace hx1 := heap_below hx1 hb
    replace hx2 := heap_below hx2 hb
    replace hx3 := heap_below hx3 hb
    clear hb
    clear c00 c01 c02 c03 c04 c05 c10 c11 c12 c13 c14 c15 c20 c21 c22 c23 c24 c25
    obtain ⟨c00, c01, c02, c03, c04, c05⟩ := blk3 hx1
    obtain ⟨c10, c11, c12, c13, c14, c15⟩ := blk3 hx2
    obtain ⟨c20, c21, c22, c23, c24, c25⟩ := blk3 hx3
    go_wp2_with fail
    refine (HXX.out _).mono ?_
    rintro e w9 ⟨rfl, hb⟩
    replace hB := bstep hN hB hb
    replace hx1 := heap_below hx1 hb
    replace hx2 := heap_below hx2 hb
    replace hx3 := heap_below hx3 hb
    clear hb
    clear c00 c01 c02 c03 c04 c05 c10 c11 c12 c13 c14 c15 c20 c21 c22 c23 c24 c25
    have HB := hid hB
    obtain ⟨c00, c01, c02, c03, c04, c05⟩ := blk3 hx1
    obtain ⟨c10, c11, c12, c13, c14, c15⟩ := blk3 hx2
    obtain ⟨c20, c21, c22, c23, c24, c25⟩ := blk3 hx3
    go_wp2
    go_ret
    refine ⟨?_, by rw [hN]; exact HB.out⟩
    first | rfl | (refine congrArg (fun b => Ending.returned (Value.bool b)) (?_ : _ = true); simp; omega)
end Go.Proofs.YtkdhaipjfkalfaaGreatDoor
