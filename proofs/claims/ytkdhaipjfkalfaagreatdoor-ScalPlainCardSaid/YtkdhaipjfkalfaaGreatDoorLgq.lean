import Derived.Test.YtkdhaipjfkalfaaGreatDoorLgb
/- What is proved: the walk of ScalPlain: it returns true whatever comes in. -/
namespace Go.Proofs.YtkdhaipjfkalfaaGreatDoor
open Go Go.RowKit Go.Lib Go.Sort
set_option linter.unusedSimpArgs false
set_option linter.unusedVariables false

namespace WScalPlain
/-- A scalar stored into its block: any other block, and what lay. -/
theorem put3_other {W : World} {b c : Nat} {o : Obj} (h : W.heap[c]? = some o) (hne : c ≠ b) (v0 v1 v2 : Value) :
    (((W.setCell ⟨b, 0, none⟩ v0).setCell ⟨b, 1, none⟩ v1).setCell ⟨b, 2, none⟩ v2).heap[c]? = some o :=
  (Below.heap_setCell _ ⟨b, 2, none⟩ v2 c hne).trans ((Below.heap_setCell _ ⟨b, 1, none⟩ v1 c hne).trans ((Below.heap_setCell W ⟨b, 0, none⟩ v0 c hne).trans h))
theorem put3_below {w W : World} {n b : Nat} (h : Below n w W) (hb : n ≤ b) (v0 v1 v2 : Value) :
    Below n w (((W.setCell ⟨b, 0, none⟩ v0).setCell ⟨b, 1, none⟩ v1).setCell ⟨b, 2, none⟩ v2) :=
  ((h.setCell (p := ⟨b, 0, none⟩) hb v0).setCell (p := ⟨b, 1, none⟩) hb v1).setCell (p := ⟨b, 2, none⟩) hb v2
theorem bstep {w W W' : World} {N : Nat} (hN : w.heap.size = N) (h : Below N w W) (hb : Below W.heap.size W W') : Below N w W' := h.trans (hb.mono (by have := h.size; omega))
theorem ball (W : World) (o : Obj) : Below W.heap.size W (W.alloc o) := (Below.refl _ W).alloc (Nat.le_refl _) o
end WScalPlain
open WScalPlain

theorem text_badP {x : Sc} (h : (textP x).2 ≠ 0) : textP x = (⟨#[]⟩, 60) := by
  unfold textP at h ⊢
  split
  · rename_i hr; rw [if_pos hr] at h; exact absurd rfl h
  · rfl
theorem text_goodP {x : Sc} (h : (textP x).2 = 0) : rightP x = true ∧ (textP x).1 = ⟨(textL x).toArray⟩ := by
  unfold textP at h ⊢
  by_cases hr : rightP x = true
  · exact ⟨hr, by rw [if_pos hr]⟩
  · rw [if_neg hr] at h; cases h
theorem quote_len (l : List UInt8) : (quoteP l).length ≤ 4 * l.length + 2 := by
  have key : ∀ rs : List Nat, (rs.flatMap qsign).length ≤ 4 * rs.length := by
    intro rs
    induction rs with
    | nil => simp
    | cons r t ih =>
      rw [List.flatMap_cons, List.length_append, List.length_cons]
      have := qsign_le r
      omega
  have h1 := key (runes l)
  have h2 := runes_len l
  unfold quoteP
  simp only [List.length_cons, List.length_append, List.length_nil]
  omega
theorem text_size (x : Sc) (h : x.str.size ≤ 100) : (textP x).1.size ≤ 10000 := by
  unfold textP
  split
  · rename_i hr
    show (⟨(textL x).toArray⟩ : ByteArray).size ≤ _
    rw [Lib.size_eq, toList_mk]
    rcases right_cases hr with rfl | rfl | rfl | ⟨n, rfl, h0, h1⟩ | ⟨t, rfl, hv⟩
    · exact (by decide : ([110, 117, 108, 108] : List UInt8).length ≤ 10000)
    · exact (by decide : ([116, 114, 117, 101] : List UInt8).length ≤ 10000)
    · exact (by decide : ([102, 97, 108, 115, 101] : List UInt8).length ≤ 10000)
    · show (itoa n).length ≤ _
      rw [itoa_sg, List.length_append]
      have := dec_len15 n.natAbs (by omega)
      have h2 : (sgOf n).length ≤ 1 := by unfold sgOf; split <;> simp
      omega
    · show (quoteP t.data.toList).length ≤ _
      have := quote_len t.data.toList
      rw [Lib.size_eq] at h
      simp only at h
      omega
  · exact Nat.zero_le _
theorem quote_may (l : List UInt8) (f : Bool) : mayP (quoteP l) f = false := by
  unfold mayP begunOK quoteP
  have h : decide (0 ≤ Lib.indexByte barredL ((34 :: ((runes l).flatMap qsign ++ [34])).headD 0)) = true := by
    rw [List.headD_cons]; decide
  rw [h]
  simp
theorem plain_ways (x : Sc) : (textP x = (⟨#[]⟩, 60)) ∨ ((textP x).2 = 0 ∧ x.kind = 3 ∧ readP (textP x).1 true = (sc0, 51)) ∨ ((textP x).2 = 0 ∧ ((x.kind : Int) == 3) = false ∧ readP (textP x).1 true = (x, 0)) := by
  by_cases h : (textP x).2 = 0
  · obtain ⟨hr, ht⟩ := text_goodP h
    by_cases hk : x.kind = 3
    · refine .inr (.inl ⟨h, hk, ?_⟩)
      rw [ht]
      have hl : textL x = quoteP x.str.data.toList := by
        unfold textL
        rw [if_neg (by omega), if_neg (by omega), if_neg (by omega)]
      unfold readP
      rw [toList_mk, hl, quote_may]
      rfl
    · exact .inr (.inr ⟨h, by rw [beq_eq_false_iff_ne]; exact hk, by rw [ht]; exact plain_text hr hk⟩)
  · exact .inl (text_badP h)
theorem back_ways (x : Sc) : ((textP x).2 = 0 ∧ readS (textP x).1 = (x, 0) ∧ rightP x = true) ∨ ((textP x).2 = 60 ∧ rightP x = false) := by
  unfold textP
  cases hr : rightP x with
  | true => exact .inl ⟨rfl, read_text hr, rfl⟩
  | false => exact .inr ⟨rfl, rfl⟩
theorem read_sized (s : ByteArray) : (readS s).1.str.size ≤ 4 * (s.size + 1) := by
  unfold readS
  cases h : saidP s with
  | none => exact Nat.zero_le _
  | some x =>
    show (if rightP x = true ∧ textL x = s.data.toList then (x, (0 : Int)) else (sc0, 60)).1.str.size ≤ _
    split
    · exact saidP_size h
    · exact Nat.zero_le _
theorem forth_ways (s : ByteArray) : ((readS s).2 = 0 ∧ textP (readS s).1 = (s, 0) ∧ rightP (readS s).1 = true) ∨ (readS s = (sc0, 60)) := by
  rcases read_cases s with ⟨z, h, hr, ht⟩ | h
  · refine .inl ?_
    rw [h]
    refine ⟨rfl, ?_, hr⟩
    unfold textP
    rw [if_pos hr]
    exact Prod.ext (mk_of ht.symm).symm rfl
  · exact .inr h

set_option maxRecDepth 100000 in
set_option maxHeartbeats 16000000 in
theorem ScalPlain_1 (k1 n1 : Int) (s1 : ByteArray) (w : World) (hT : Tabs w) (hw : textP (⟨k1, n1, cut6 s1⟩ : Sc) = (⟨#[]⟩, 60)) :
    Calls Tryz.prog 10 #[.agg #[.int .i64 k1, .int .i64 n1, .string s1]] w fun e w' => e = .returned (.bool true) ∧ Below w.heap.size w w' := by
  obtain ⟨N, hN⟩ : ∃ N, w.heap.size = N := ⟨_, rfl⟩
  have hTT : ∀ {wx}, Below N w wx → Tabs wx := fun hx => hT.below (hN ▸ hx)
  have hSH := fun wx hx => shown_any wx (hTT hx)
  have hCs := fun wx => cut_same ⟨#[]⟩ wx
  have hC1 : ∀ wx, Calls Tryz.prog 12 #[.agg #[.int .i64 k1, .int .i64 n1, .string s1]] wx fun e w' => e = .returned (.agg #[.int .i64 k1, .int .i64 n1, .string (cut6 s1)]) ∧ Below wx.heap.size wx w' := fun wx => Cut_any ⟨k1, n1, s1⟩ wx
  have z1 := cut6_size s1
  obtain ⟨t1, ht1⟩ : ∃ t, cut6 s1 = t := ⟨_, rfl⟩
  rw [ht1] at hC1 z1 hw
  have HC1 := hid hC1
  clear hC1 ht1
  clear hCs
  have HSH := hid hSH
  clear hSH
  have hTx1 := fun wx (hx : Below N w wx) => scText_any ⟨k1, n1, t1⟩ wx (by show t1.size ≤ _; omega) (hTT hx)
  unfold textV scV at hTx1
  have hz := text_size ⟨k1, n1, t1⟩ z1
  obtain ⟨⟨X1, e1⟩, hx1⟩ : ∃ r, textP ⟨k1, n1, t1⟩ = r := ⟨_, rfl⟩
  rw [hx1] at hTx1 hw hz
  simp only at hz
  obtain ⟨rfl, rfl⟩ : X1 = ⟨#[]⟩ ∧ e1 = 60 := ⟨congrArg Prod.fst hw, congrArg Prod.snd hw⟩
  have HT1 := hid hTx1
  clear hTx1 hx1 z1 hz hw
  have hB : Below N w (w.alloc (.cells #[.int .i64 k1, .int .i64 n1, .string s1] 23)) := (Below.refl N w).alloc (by omega) _
  have hx1 := World.alloc_heap_new w (.cells #[.int .i64 k1, .int .i64 n1, .string s1] 23)
  simp only [World.size_alloc, hN] at hx1
  clear hT hTT
  go_enter Tryz.func10, Tryz.ntmps10
  obtain ⟨c00, c01, c02, c03, c04, c05⟩ := blk3 hx1
  go_wp2_with fail
  refine (HSH.out _ hB).mono ?_
  rintro e w1 ⟨rfl, hb⟩
  replace hB := bstep hN hB hb
  replace hx1 := heap_below hx1 hb
  clear hb
  clear c00 c01 c02 c03 c04 c05
  obtain ⟨c00, c01, c02, c03, c04, c05⟩ := blk3 hx1
  go_wp2_with fail
  refine (HC1.out _).mono ?_
  rintro e w2 ⟨rfl, hb⟩
  replace hB := bstep hN hB hb
  replace hx1 := heap_below hx1 hb
  clear hb
  clear c00 c01 c02 c03 c04 c05
  obtain ⟨p0, p1, p2, p3, p4, p5⟩ := blk3 hx1
  replace hx1 := set_blk3 hx1 (.int .i64 k1) (.int .i64 n1) (.string t1)
  replace hB := put3_below hB (b := N) (by omega) (.int .i64 k1) (.int .i64 n1) (.string t1)
  obtain ⟨c00, c01, c02, c03, c04, c05⟩ := blk3 hx1
  go_wp2_with fail
  refine (HT1.out _ hB).mono ?_
  rintro e w3 ⟨rfl, hb⟩
  replace hB := bstep hN hB hb
  replace hx1 := heap_below hx1 hb
  clear hb
  clear c00 c01 c02 c03 c04 c05 p0 p1 p2 p3 p4 p5
  have HB := hid hB
  obtain ⟨c00, c01, c02, c03, c04, c05⟩ := blk3 hx1
  go_wp2
  go_ret
  exact ⟨rfl, by rw [hN]; exact HB.out⟩

set_option maxRecDepth 100000 in
set_option maxHeartbeats 16000000 in
theorem ScalPlain_2 (k1 n1 : Int) (s1 : ByteArray) (w : World) (hT : Tabs w) (hw : (textP (⟨k1, n1, cut6 s1⟩ : Sc)).2 = 0 ∧ (⟨k1, n1, cut6 s1⟩ : Sc).kind = 3 ∧ readP (textP (⟨k1, n1, cut6 s1⟩ : Sc)).1 true = (sc0, 51)) :
    Calls Tryz.prog 10 #[.agg #[.int .i64 k1, .int .i64 n1, .string s1]] w fun e w' => e = .returned (.bool true) ∧ Below w.heap.size w w' := by
  obtain ⟨N, hN⟩ : ∃ N, w.heap.size = N := ⟨_, rfl⟩
  have hTT : ∀ {wx}, Below N w wx → Tabs wx := fun hx => hT.below (hN ▸ hx)
  have hSH := fun wx hx => shown_any wx (hTT hx)
  have hCs := fun wx => cut_same ⟨#[]⟩ wx
  have hC1 : ∀ wx, Calls Tryz.prog 12 #[.agg #[.int .i64 k1, .int .i64 n1, .string s1]] wx fun e w' => e = .returned (.agg #[.int .i64 k1, .int .i64 n1, .string (cut6 s1)]) ∧ Below wx.heap.size wx w' := fun wx => Cut_any ⟨k1, n1, s1⟩ wx
  have z1 := cut6_size s1
  obtain ⟨t1, ht1⟩ : ∃ t, cut6 s1 = t := ⟨_, rfl⟩
  rw [ht1] at hC1 z1 hw
  have HC1 := hid hC1
  clear hC1 ht1
  clear hCs
  have HSH := hid hSH
  clear hSH
  have hTx1 := fun wx (hx : Below N w wx) => scText_any ⟨k1, n1, t1⟩ wx (by show t1.size ≤ _; omega) (hTT hx)
  unfold textV scV at hTx1
  have hz := text_size ⟨k1, n1, t1⟩ z1
  obtain ⟨⟨X1, e1⟩, hx1⟩ : ∃ r, textP ⟨k1, n1, t1⟩ = r := ⟨_, rfl⟩
  rw [hx1] at hTx1 hw hz
  simp only at hz
  have hP := fun wx (hx : Below N w wx) => Read_any X1 true wx (by omega) (hTT hx)
  obtain ⟨he, hk, hp⟩ := hw
  simp only at he hk hp
  rw [hp] at hP
  unfold scV at hP
  subst he
  replace hk : ((k1 : Int) == 3) = true := by rw [beq_iff_eq]; exact hk
  unfold sc0 at hP
  have HPP := hid hP
  have HT1 := hid hTx1
  clear hTx1 hx1 z1 hz hP hp
  have hB : Below N w (w.alloc (.cells #[.int .i64 k1, .int .i64 n1, .string s1] 23)) := (Below.refl N w).alloc (by omega) _
  have hx1 := World.alloc_heap_new w (.cells #[.int .i64 k1, .int .i64 n1, .string s1] 23)
  simp only [World.size_alloc, hN] at hx1
  clear hT hTT
  go_enter Tryz.func10, Tryz.ntmps10
  obtain ⟨c00, c01, c02, c03, c04, c05⟩ := blk3 hx1
  go_wp2_with fail
  refine (HSH.out _ hB).mono ?_
  rintro e w1 ⟨rfl, hb⟩
  replace hB := bstep hN hB hb
  replace hx1 := heap_below hx1 hb
  clear hb
  clear c00 c01 c02 c03 c04 c05
  obtain ⟨c00, c01, c02, c03, c04, c05⟩ := blk3 hx1
  go_wp2_with fail
  refine (HC1.out _).mono ?_
  rintro e w2 ⟨rfl, hb⟩
  replace hB := bstep hN hB hb
  replace hx1 := heap_below hx1 hb
  clear hb
  clear c00 c01 c02 c03 c04 c05
  obtain ⟨p0, p1, p2, p3, p4, p5⟩ := blk3 hx1
  replace hx1 := set_blk3 hx1 (.int .i64 k1) (.int .i64 n1) (.string t1)
  replace hB := put3_below hB (b := N) (by omega) (.int .i64 k1) (.int .i64 n1) (.string t1)
  obtain ⟨c00, c01, c02, c03, c04, c05⟩ := blk3 hx1
  go_wp2_with fail
  refine (HT1.out _ hB).mono ?_
  rintro e w3 ⟨rfl, hb⟩
  replace hB := bstep hN hB hb
  replace hx1 := heap_below hx1 hb
  clear hb
  clear c00 c01 c02 c03 c04 c05 p0 p1 p2 p3 p4 p5
  obtain ⟨c00, c01, c02, c03, c04, c05⟩ := blk3 hx1
  go_wp2_with fail
  refine (HPP.out _ hB).mono ?_
  rintro e w4 ⟨rfl, hb⟩
  replace hB := bstep hN hB hb
  replace hx1 := heap_below hx1 hb
  clear hb
  clear c00 c01 c02 c03 c04 c05
  obtain ⟨C1, hC1⟩ : ∃ r, w4.heap.size = r := ⟨_, rfl⟩
  have hx2 := World.alloc_heap_new w4 (.cells #[.int .i64 0, .int .i64 0, .string ⟨#[]⟩] 23)
  rw [hC1] at hx2
  replace hB := bstep hN hB (ball w4 (.cells #[.int .i64 0, .int .i64 0, .string ⟨#[]⟩] 23))
  replace hx1 := heap_below hx1 (ball w4 (.cells #[.int .i64 0, .int .i64 0, .string ⟨#[]⟩] 23))
  have HB := hid hB
  obtain ⟨c00, c01, c02, c03, c04, c05⟩ := blk3 hx1
  obtain ⟨c10, c11, c12, c13, c14, c15⟩ := blk3 hx2
  go_wp2
  go_ret
  exact ⟨rfl, by rw [hN]; exact HB.out⟩

set_option maxRecDepth 100000 in
set_option maxHeartbeats 16000000 in
theorem ScalPlain_3 (k1 n1 : Int) (s1 : ByteArray) (w : World) (hT : Tabs w) (hw : (textP (⟨k1, n1, cut6 s1⟩ : Sc)).2 = 0 ∧ (((⟨k1, n1, cut6 s1⟩ : Sc).kind : Int) == 3) = false ∧ readP (textP (⟨k1, n1, cut6 s1⟩ : Sc)).1 true = ((⟨k1, n1, cut6 s1⟩ : Sc), 0)) :
    Calls Tryz.prog 10 #[.agg #[.int .i64 k1, .int .i64 n1, .string s1]] w fun e w' => e = .returned (.bool true) ∧ Below w.heap.size w w' := by
  obtain ⟨N, hN⟩ : ∃ N, w.heap.size = N := ⟨_, rfl⟩
  have hTT : ∀ {wx}, Below N w wx → Tabs wx := fun hx => hT.below (hN ▸ hx)
  have hSH := fun wx hx => shown_any wx (hTT hx)
  have hCs := fun wx => cut_same ⟨#[]⟩ wx
  have hC1 : ∀ wx, Calls Tryz.prog 12 #[.agg #[.int .i64 k1, .int .i64 n1, .string s1]] wx fun e w' => e = .returned (.agg #[.int .i64 k1, .int .i64 n1, .string (cut6 s1)]) ∧ Below wx.heap.size wx w' := fun wx => Cut_any ⟨k1, n1, s1⟩ wx
  have z1 := cut6_size s1
  obtain ⟨t1, ht1⟩ : ∃ t, cut6 s1 = t := ⟨_, rfl⟩
  rw [ht1] at hC1 z1 hw
  have HC1 := hid hC1
  clear hC1 ht1
  clear hCs
  have HSH := hid hSH
  clear hSH
  have hTx1 := fun wx (hx : Below N w wx) => scText_any ⟨k1, n1, t1⟩ wx (by show t1.size ≤ _; omega) (hTT hx)
  unfold textV scV at hTx1
  have hz := text_size ⟨k1, n1, t1⟩ z1
  obtain ⟨⟨X1, e1⟩, hx1⟩ : ∃ r, textP ⟨k1, n1, t1⟩ = r := ⟨_, rfl⟩
  rw [hx1] at hTx1 hw hz
  simp only at hz
  have hP := fun wx (hx : Below N w wx) => Read_any X1 true wx (by omega) (hTT hx)
  obtain ⟨he, hk, hp⟩ := hw
  simp only at he hk hp
  rw [hp] at hP
  unfold scV at hP
  subst he
  have HPP := hid hP
  have HT1 := hid hTx1
  clear hTx1 hx1 z1 hz hP hp
  have hB : Below N w (w.alloc (.cells #[.int .i64 k1, .int .i64 n1, .string s1] 23)) := (Below.refl N w).alloc (by omega) _
  have hx1 := World.alloc_heap_new w (.cells #[.int .i64 k1, .int .i64 n1, .string s1] 23)
  simp only [World.size_alloc, hN] at hx1
  clear hT hTT
  go_enter Tryz.func10, Tryz.ntmps10
  obtain ⟨c00, c01, c02, c03, c04, c05⟩ := blk3 hx1
  go_wp2_with fail
  refine (HSH.out _ hB).mono ?_
  rintro e w1 ⟨rfl, hb⟩
  replace hB := bstep hN hB hb
  replace hx1 := heap_below hx1 hb
  clear hb
  clear c00 c01 c02 c03 c04 c05
  obtain ⟨c00, c01, c02, c03, c04, c05⟩ := blk3 hx1
  go_wp2_with fail
  refine (HC1.out _).mono ?_
  rintro e w2 ⟨rfl, hb⟩
  replace hB := bstep hN hB hb
  replace hx1 := heap_below hx1 hb
  clear hb
  clear c00 c01 c02 c03 c04 c05
  obtain ⟨p0, p1, p2, p3, p4, p5⟩ := blk3 hx1
  replace hx1 := set_blk3 hx1 (.int .i64 k1) (.int .i64 n1) (.string t1)
  replace hB := put3_below hB (b := N) (by omega) (.int .i64 k1) (.int .i64 n1) (.string t1)
  obtain ⟨c00, c01, c02, c03, c04, c05⟩ := blk3 hx1
  go_wp2_with fail
  refine (HT1.out _ hB).mono ?_
  rintro e w3 ⟨rfl, hb⟩
  replace hB := bstep hN hB hb
  replace hx1 := heap_below hx1 hb
  clear hb
  clear c00 c01 c02 c03 c04 c05 p0 p1 p2 p3 p4 p5
  obtain ⟨c00, c01, c02, c03, c04, c05⟩ := blk3 hx1
  go_wp2_with fail
  refine (HPP.out _ hB).mono ?_
  rintro e w4 ⟨rfl, hb⟩
  replace hB := bstep hN hB hb
  replace hx1 := heap_below hx1 hb
  clear hb
  clear c00 c01 c02 c03 c04 c05
  obtain ⟨C1, hC1⟩ : ∃ r, w4.heap.size = r := ⟨_, rfl⟩
  have hx2 := World.alloc_heap_new w4 (.cells #[.int .i64 k1, .int .i64 n1, .string t1] 23)
  rw [hC1] at hx2
  replace hB := bstep hN hB (ball w4 (.cells #[.int .i64 k1, .int .i64 n1, .string t1] 23))
  replace hx1 := heap_below hx1 (ball w4 (.cells #[.int .i64 k1, .int .i64 n1, .string t1] 23))
  have HB := hid hB
  obtain ⟨c00, c01, c02, c03, c04, c05⟩ := blk3 hx1
  obtain ⟨c10, c11, c12, c13, c14, c15⟩ := blk3 hx2
  go_wp2
  go_ret
  exact ⟨rfl, by rw [hN]; exact HB.out⟩

theorem ScalPlain_any (k1 n1 : Int) (s1 : ByteArray) (w : World) (hT : Tabs w) :
    Calls Tryz.prog 10 #[.agg #[.int .i64 k1, .int .i64 n1, .string s1]] w fun e w' => e = .returned (.bool true) ∧ Below w.heap.size w w' := by
  rcases plain_ways (⟨k1, n1, cut6 s1⟩ : Sc) with h | h | h
  · exact ScalPlain_1 k1 n1 s1 w hT h
  · exact ScalPlain_2 k1 n1 s1 w hT h
  · exact ScalPlain_3 k1 n1 s1 w hT h
end Go.Proofs.YtkdhaipjfkalfaaGreatDoor
