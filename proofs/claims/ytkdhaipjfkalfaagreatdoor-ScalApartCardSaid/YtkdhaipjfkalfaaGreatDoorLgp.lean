import Derived.Test.YtkdhaipjfkalfaaGreatDoorLgb
/- What is proved: the walk of ScalApart: it returns true whatever comes in. -/
namespace Go.Proofs.YtkdhaipjfkalfaaGreatDoor
open Go Go.RowKit Go.Lib Go.Sort
set_option linter.unusedSimpArgs false
set_option linter.unusedVariables false

namespace WScalApart
/-- A scalar stored into its block: any other block, and what lay. -/
theorem put3_other {W : World} {b c : Nat} {o : Obj} (h : W.heap[c]? = some o) (hne : c ≠ b) (v0 v1 v2 : Value) :
    (((W.setCell ⟨b, 0, none⟩ v0).setCell ⟨b, 1, none⟩ v1).setCell ⟨b, 2, none⟩ v2).heap[c]? = some o :=
  (Below.heap_setCell _ ⟨b, 2, none⟩ v2 c hne).trans ((Below.heap_setCell _ ⟨b, 1, none⟩ v1 c hne).trans ((Below.heap_setCell W ⟨b, 0, none⟩ v0 c hne).trans h))
theorem put3_below {w W : World} {n b : Nat} (h : Below n w W) (hb : n ≤ b) (v0 v1 v2 : Value) :
    Below n w (((W.setCell ⟨b, 0, none⟩ v0).setCell ⟨b, 1, none⟩ v1).setCell ⟨b, 2, none⟩ v2) :=
  ((h.setCell (p := ⟨b, 0, none⟩) hb v0).setCell (p := ⟨b, 1, none⟩) hb v1).setCell (p := ⟨b, 2, none⟩) hb v2
theorem bstep {w W W' : World} {N : Nat} (hN : w.heap.size = N) (h : Below N w W) (hb : Below W.heap.size W W') : Below N w W' := h.trans (hb.mono (by have := h.size; omega))
theorem ball (W : World) (o : Obj) : Below W.heap.size W (W.alloc o) := (Below.refl _ W).alloc (Nat.le_refl _) o
end WScalApart
open WScalApart

theorem text_bad {x : Sc} (h : (textP x).2 ≠ 0) : textP x = (⟨#[]⟩, 60) := by
  unfold textP at h ⊢
  split
  · rename_i hr; rw [if_pos hr] at h; exact absurd rfl h
  · rfl
theorem text_good {x : Sc} (h : (textP x).2 = 0) : rightP x = true ∧ (textP x).1 = ⟨(textL x).toArray⟩ := by
  unfold textP at h ⊢
  by_cases hr : rightP x = true
  · exact ⟨hr, by rw [if_pos hr]⟩
  · rw [if_neg hr] at h; cases h
theorem apart_ways (x y : Sc) : ((textP x).2 = 0 ∧ (textP y).2 = 0 ∧ ((textP x).1.toList == (textP y).1.toList) = decide (x = y)) ∨ ((textP x).1 = ⟨#[]⟩ ∧ (textP x).2 = 60 ∧ (textP y).1 = ⟨#[]⟩ ∧ (textP y).2 = 60) ∨ ((textP x).1 = ⟨#[]⟩ ∧ (textP x).2 = 60 ∧ (textP y).2 = 0) ∨ ((textP x).2 = 0 ∧ (textP y).1 = ⟨#[]⟩ ∧ (textP y).2 = 60) := by
  by_cases hx : (textP x).2 = 0
  · by_cases hy : (textP y).2 = 0
    · obtain ⟨rx, ex⟩ := text_good hx
      obtain ⟨ry, ey⟩ := text_good hy
      refine .inl ⟨hx, hy, ?_⟩
      rw [Bool.eq_iff_iff, Lib.toList_data, Lib.toList_data]
      simp only [beq_iff_eq, decide_eq_true_eq]
      rw [ex, ey]
      constructor
      · intro h; exact text_inj rx ry (by simpa using h)
      · rintro rfl; rfl
    · have := text_bad hy
      exact .inr (.inr (.inr ⟨hx, by rw [this], by rw [this]⟩))
  · have h1 := text_bad hx
    by_cases hy : (textP y).2 = 0
    · exact .inr (.inr (.inl ⟨by rw [h1], by rw [h1], hy⟩))
    · have h2 := text_bad hy
      exact .inr (.inl ⟨by rw [h1], by rw [h1], by rw [h2], by rw [h2]⟩)

set_option maxRecDepth 100000 in
set_option maxHeartbeats 16000000 in
theorem ScalApart_any (k1 n1 : Int) (s1 : ByteArray) (k2 n2 : Int) (s2 : ByteArray) (w : World) (hT : Tabs w) :
    Calls Tryz.prog 8 #[.agg #[.int .i64 k1, .int .i64 n1, .string s1], .agg #[.int .i64 k2, .int .i64 n2, .string s2]] w fun e w' => e = .returned (.bool true) ∧ Below w.heap.size w w' := by
  obtain ⟨N, hN⟩ : ∃ N, w.heap.size = N := ⟨_, rfl⟩
  have hTT : ∀ {wx}, Below N w wx → Tabs wx := fun hx => hT.below (hN ▸ hx)
  have hSH := fun wx hx => shown_any wx (hTT hx)
  have hCs := fun wx => cut_same ⟨#[]⟩ wx
  have hC1 : ∀ wx, Calls Tryz.prog 12 #[.agg #[.int .i64 k1, .int .i64 n1, .string s1]] wx fun e w' => e = .returned (.agg #[.int .i64 k1, .int .i64 n1, .string (cut6 s1)]) ∧ Below wx.heap.size wx w' := fun wx => Cut_any ⟨k1, n1, s1⟩ wx
  have z1 := cut6_size s1
  obtain ⟨t1, ht1⟩ : ∃ t, cut6 s1 = t := ⟨_, rfl⟩
  rw [ht1] at hC1 z1
  have HC1 := hid hC1
  clear hC1 ht1
  have hC2 : ∀ wx, Calls Tryz.prog 12 #[.agg #[.int .i64 k2, .int .i64 n2, .string s2]] wx fun e w' => e = .returned (.agg #[.int .i64 k2, .int .i64 n2, .string (cut6 s2)]) ∧ Below wx.heap.size wx w' := fun wx => Cut_any ⟨k2, n2, s2⟩ wx
  have z2 := cut6_size s2
  obtain ⟨t2, ht2⟩ : ∃ t, cut6 s2 = t := ⟨_, rfl⟩
  rw [ht2] at hC2 z2
  have HC2 := hid hC2
  clear hC2 ht2
  clear hCs
  have HSH := hid hSH
  clear hSH
  have hTx1 := fun wx (hx : Below N w wx) => scText_any ⟨k1, n1, t1⟩ wx (by show t1.size ≤ _; omega) (hTT hx)
  unfold textV scV at hTx1
  have hTx2 := fun wx (hx : Below N w wx) => scText_any ⟨k2, n2, t2⟩ wx (by show t2.size ≤ _; omega) (hTT hx)
  unfold textV scV at hTx2
  have hE := fun wx => eql_sc k1 n1 k2 n2 t1 t2 wx
  have hbe := sc_eq ⟨k1, n1, t1⟩ ⟨k2, n2, t2⟩
  have hw := apart_ways ⟨k1, n1, t1⟩ ⟨k2, n2, t2⟩
  obtain ⟨⟨X1, e1⟩, hx1⟩ : ∃ r, textP ⟨k1, n1, t1⟩ = r := ⟨_, rfl⟩
  obtain ⟨⟨X2, e2⟩, hx2⟩ : ∃ r, textP ⟨k2, n2, t2⟩ = r := ⟨_, rfl⟩
  rw [hx1] at hTx1 hw
  rw [hx2] at hTx2 hw
  simp only at hbe hw
  obtain ⟨bb, hbb⟩ : ∃ bb, ((k1 : Int) == (k2 : Int) && ((n1 : Int) == (n2 : Int) && t1.toList == t2.toList)) = bb := ⟨_, rfl⟩
  rw [hbb] at hE hbe
  rw [← hbe] at hw
  have HW := hid hw
  have HE := hid hE
  have HT1 := hid hTx1
  have HT2 := hid hTx2
  clear hw hE hTx1 hTx2 hbb hbe hx1 hx2 z1 z2
  have hB : Below N w ((w.alloc (.cells #[.int .i64 k1, .int .i64 n1, .string s1] 23)).alloc (.cells #[.int .i64 k2, .int .i64 n2, .string s2] 23)) := ((Below.refl N w).alloc (by omega) _).alloc (by simp; omega) _
  have hx1 := World.alloc_heap_new w (.cells #[.int .i64 k1, .int .i64 n1, .string s1] 23)
  replace hx1 := heap_below hx1 (ball _ (.cells #[.int .i64 k2, .int .i64 n2, .string s2] 23))
  simp only [World.size_alloc, hN] at hx1
  have hx2 := World.alloc_heap_new (w.alloc (.cells #[.int .i64 k1, .int .i64 n1, .string s1] 23)) (.cells #[.int .i64 k2, .int .i64 n2, .string s2] 23)
  simp only [World.size_alloc, hN] at hx2
  clear hT hTT
  go_enter Tryz.func8, Tryz.ntmps8
  obtain ⟨c00, c01, c02, c03, c04, c05⟩ := blk3 hx1
  obtain ⟨c10, c11, c12, c13, c14, c15⟩ := blk3 hx2
  go_wp2_with fail
  refine (HSH.out _ hB).mono ?_
  rintro e w1 ⟨rfl, hb⟩
  replace hB := bstep hN hB hb
  replace hx1 := heap_below hx1 hb
  replace hx2 := heap_below hx2 hb
  clear hb
  clear c00 c01 c02 c03 c04 c05 c10 c11 c12 c13 c14 c15
  obtain ⟨c00, c01, c02, c03, c04, c05⟩ := blk3 hx1
  obtain ⟨c10, c11, c12, c13, c14, c15⟩ := blk3 hx2
  go_wp2_with fail
  refine (HC1.out _).mono ?_
  rintro e w2 ⟨rfl, hb⟩
  replace hB := bstep hN hB hb
  replace hx1 := heap_below hx1 hb
  replace hx2 := heap_below hx2 hb
  clear hb
  clear c00 c01 c02 c03 c04 c05 c10 c11 c12 c13 c14 c15
  obtain ⟨p0, p1, p2, p3, p4, p5⟩ := blk3 hx1
  replace hx1 := set_blk3 hx1 (.int .i64 k1) (.int .i64 n1) (.string t1)
  replace hx2 := put3_other hx2 (b := N) (by omega) (.int .i64 k1) (.int .i64 n1) (.string t1)
  replace hB := put3_below hB (b := N) (by omega) (.int .i64 k1) (.int .i64 n1) (.string t1)
  obtain ⟨c00, c01, c02, c03, c04, c05⟩ := blk3 hx1
  obtain ⟨c10, c11, c12, c13, c14, c15⟩ := blk3 hx2
  go_wp2_with fail
  refine (HC2.out _).mono ?_
  rintro e w3 ⟨rfl, hb⟩
  replace hB := bstep hN hB hb
  replace hx1 := heap_below hx1 hb
  replace hx2 := heap_below hx2 hb
  clear hb
  clear c00 c01 c02 c03 c04 c05 c10 c11 c12 c13 c14 c15 p0 p1 p2 p3 p4 p5
  obtain ⟨p0, p1, p2, p3, p4, p5⟩ := blk3 hx2
  replace hx1 := put3_other hx1 (b := N + 1) (by omega) (.int .i64 k2) (.int .i64 n2) (.string t2)
  replace hx2 := set_blk3 hx2 (.int .i64 k2) (.int .i64 n2) (.string t2)
  replace hB := put3_below hB (b := N + 1) (by omega) (.int .i64 k2) (.int .i64 n2) (.string t2)
  obtain ⟨c00, c01, c02, c03, c04, c05⟩ := blk3 hx1
  obtain ⟨c10, c11, c12, c13, c14, c15⟩ := blk3 hx2
  go_wp2_with fail
  refine (HT1.out _ hB).mono ?_
  rintro e w4 ⟨rfl, hb⟩
  replace hB := bstep hN hB hb
  replace hx1 := heap_below hx1 hb
  replace hx2 := heap_below hx2 hb
  clear hb
  clear c00 c01 c02 c03 c04 c05 c10 c11 c12 c13 c14 c15 p0 p1 p2 p3 p4 p5
  obtain ⟨c00, c01, c02, c03, c04, c05⟩ := blk3 hx1
  obtain ⟨c10, c11, c12, c13, c14, c15⟩ := blk3 hx2
  go_wp2_with fail
  refine (HT2.out _ hB).mono ?_
  rintro e w5 ⟨rfl, hb⟩
  replace hB := bstep hN hB hb
  replace hx1 := heap_below hx1 hb
  replace hx2 := heap_below hx2 hb
  clear hb
  clear c00 c01 c02 c03 c04 c05 c10 c11 c12 c13 c14 c15
  have HB := hid hB
  have hE := HE.out
  have hw := HW.out
  rcases hw with ⟨rfl, rfl, hcmp⟩ | ⟨rfl, rfl, rfl, rfl⟩ | ⟨rfl, rfl, rfl⟩ | ⟨rfl, rfl, rfl⟩
  all_goals
    obtain ⟨c00, c01, c02, c03, c04, c05⟩ := blk3 hx1
    obtain ⟨c10, c11, c12, c13, c14, c15⟩ := blk3 hx2
    go_wp2
    go_ret
    exact ⟨rfl, by rw [hN]; exact HB.out⟩
end Go.Proofs.YtkdhaipjfkalfaaGreatDoor
