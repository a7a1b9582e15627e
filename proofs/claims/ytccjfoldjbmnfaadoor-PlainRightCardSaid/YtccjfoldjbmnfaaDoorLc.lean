import Derived.Test.YtccjfoldjbmnfaaDoorLb
namespace Go.Proofs.YtccjfoldjbmnfaaDoor
open Go Go.RowKit Go.Lib
set_option linter.unusedSimpArgs false

theorem right_len {x : Sc} (h : rightP x = true) (hk : x.kind ≠ 3) : x.str.size ≤ 1000000 := by
  have key : x.str.data.toList.isEmpty = true → x.str.size ≤ 1000000 := fun he => by rw [Lib.size_eq, List.isEmpty_iff.1 he]; simp
  unfold rightP at h
  by_cases k0 : x.kind = 0
  · rw [if_pos k0] at h; simp only [Bool.and_eq_true] at h; exact key h.2
  rw [if_neg k0] at h
  by_cases k1 : x.kind = 1
  · rw [if_pos k1] at h; simp only [Bool.and_eq_true] at h; exact key h.1
  rw [if_neg k1] at h
  by_cases k2 : x.kind = 2
  · rw [if_pos k2] at h; simp only [Bool.and_eq_true] at h; exact key h.1
  rw [if_neg k2, if_neg hk] at h
  cases h

set_option maxRecDepth 100000 in
set_option maxHeartbeats 4000000 in
theorem PlainRight_any (s : ByteArray) (w : World) (hT : Tabs w) :
    Calls Tryd.prog 4 #[.string s] w fun e w' => e = .returned (.bool true) ∧ Below w.heap.size w w' := by
  obtain ⟨S, hS⟩ : ∃ S, cutB s = S := ⟨_, rfl⟩
  have hSs : S.size ≤ 1000000 := by have := cutB_size s; rw [hS] at this; omega
  have hcs := cut_same s
  rw [hS] at hcs
  have hRp := fun wx hx => Resolve_any S wx hSs hx
  have hBt := fun wx hx => Read_any S true wx hSs hx
  have hCt := fun wx hx => Read_any S false wx hSs hx
  obtain ⟨F1, F2, F3⟩ := resolve_facts S
  have F4 := resolve_read S
  have F5 := read_flow S
  obtain ⟨⟨⟨k1, n1, t1⟩, e1⟩, hx⟩ : ∃ p, resolveP S = p := ⟨_, rfl⟩
  obtain ⟨⟨⟨k2, n2, t2⟩, e2⟩, hy⟩ : ∃ p, readP S true = p := ⟨_, rfl⟩
  obtain ⟨⟨⟨k3, n3, t3⟩, e3⟩, hz⟩ : ∃ p, readP S false = p := ⟨_, rfl⟩
  rw [hx] at hRp F1 F2 F3 F4
  rw [hy] at hBt F5
  rw [hz] at hCt F4 F5
  simp only [scV] at hRp hBt hCt
  have G1 := hid F1; have G2 := hid F2; have G3 := hid F3; have G4 := hid F4; have G5 := hid F5
  have hlen : t1.size ≤ 1000000 := by
    rcases F3 with h | h
    · exact right_len F1 h
    · rw [show t1 = S from h]; exact hSs
  have HLN := hid hlen
  clear hS hx hy hz F1 F2 F3 F4 F5 hlen
  go_enter Tryd.func4, Tryd.ntmps4
  go_wp2_with fail
  refine (shown_any _ hT).mono ?_
  rintro e w1 ⟨rfl, hs1⟩
  go_wp2_with fail
  refine (hcs w1).mono ?_
  rintro e w1' ⟨rfl, hw⟩
  subst w1'
  clear hcs
  go_wp2_with fail
  refine (hRp _ (hT.below hs1)).mono ?_
  rintro e w2 ⟨rfl, hb2⟩
  have hs2 := below_step hs1 hb2
  clear hb2 hs1 hRp
  go_wp2_with fail
  refine (hBt _ ((hT.below hs2).alloc _)).mono ?_
  rintro e w3 ⟨rfl, hb3⟩
  obtain ⟨hA, hd⟩ := laid_call hb3
  have hA3 : Blk w3 w2.heap.size ⟨k1, n1, t1⟩ := hA
  have hs3 := below_step hs2 hd
  clear hA hb3 hs2 hd hBt
  go_wp2_with fail
  refine (hCt _ ((hT.below hs3).alloc _)).mono ?_
  rintro e w4 ⟨rfl, hb4⟩
  obtain ⟨hB, hd⟩ := laid_call hb4
  have hB4 : Blk w4 w3.heap.size ⟨k2, n2, t2⟩ := hB
  have hA4 := hA3.below hd
  have hs4 := below_step hs3 hd
  clear hB hb4 hA3 hs3 hd hCt
  have hd := (Below.refl w4.heap.size w4).alloc (Nat.le_refl _) (.cells #[.int .i64 k3, .int .i64 n3, .string t3] 23)
  have hA5 := hA4.below hd
  have hB5 := hB4.below hd
  have hC5 : Blk (w4.alloc (.cells #[.int .i64 k3, .int .i64 n3, .string t3] 23)) w4.heap.size ⟨k3, n3, t3⟩ := World.alloc_heap_new _ _
  have hs5 := below_step hs4 hd
  clear hd hA4 hB4 hs4
  cases hm : mayP S.data.toList true with
  | false =>
    have hMt := fun wx hx => May_any S true wx hSs hx
    rw [hm] at hMt
    clear hm hB5
    go_wp2_with fail
    refine (hMt _ (hT.below hs5)).mono ?_
    clear hMt
    rintro e w6 ⟨rfl, hb6⟩
    have hs6 := below_step hs5 hb6
    have hA6 := hA5.below hb6
    have hC6 := hC5.below hb6
    clear hA5 hC5 hb6 hs5
    obtain ⟨a0, a1, a2⟩ : _ ∧ _ ∧ _ := ⟨hA6.c0, hA6.c1, hA6.c2⟩
    go_wp2_with fail
    refine (plainRight_any k1 n1 t1 _ HLN.out (hT.below hs6)).mono ?_
    rw [G1.out]
    rintro e w7 ⟨rfl, hb7⟩
    have hs7 := below_step hs6 hb7
    have hA7 := hA6.below hb7
    have hC7 := hC6.below hb7
    clear a0 a1 a2 hA6 hC6 hb7 hs6
    obtain ⟨a0, a1, a2⟩ : _ ∧ _ ∧ _ := ⟨hA7.c0, hA7.c1, hA7.c2⟩
    obtain ⟨d0, d1, d2⟩ : _ ∧ _ ∧ _ := ⟨hC7.c0, hC7.c1, hC7.c2⟩
    clear hA7 hC7
    by_cases hSe : 0 < S.size
    · have he := isEmpty_false hSe
      have q := (G4.out (by rw [← Lib.toList_data]; exact he)).symm
      injection q with q0 q3
      injection q0 with q0 q1 q2
      subst q0; subst q1; subst q2; subst q3
      rcases G2.out with h2 | h2
      · subst h2
        rcases G3.out with h3 | h3
        · have h3a : ¬ k1 = 3 := h3
          have h3b : (k1 == 3) = false := by simpa using h3a
          go_wp2
          all_goals (go_ret; exact ⟨rfl, hs7⟩)
        · subst h3
          go_wp2
          all_goals (go_ret; exact ⟨rfl, hs7⟩)
      · unfold sc0 at h2
        injection h2 with q0 q1 q2
        subst q0; subst q1; subst q2
        go_wp2
        all_goals (go_ret; exact ⟨rfl, hs7⟩)
    · have he := isEmpty_true hSe
      rcases G2.out with h2 | h2
      · subst h2
        rcases G3.out with h3 | h3
        · have h3a : ¬ k1 = 3 := h3
          have h3b : (k1 == 3) = false := by simpa using h3a
          go_wp2
          all_goals (go_ret; exact ⟨rfl, hs7⟩)
        · subst h3
          go_wp2
          all_goals (go_ret; exact ⟨rfl, hs7⟩)
      · unfold sc0 at h2
        injection h2 with q0 q1 q2
        subst q0; subst q1; subst q2
        go_wp2
        all_goals (go_ret; exact ⟨rfl, hs7⟩)
  | true =>
    have hMt := fun wx hx => May_any S true wx hSs hx
    have hMf := fun wx hx => May_any S false wx hSs hx
    rw [may_mono _ hm] at hMf
    have q := G5.out hm
    rw [hm] at hMt
    injection q with q0 q3
    injection q0 with q0 q1 q2
    subst q0; subst q1; subst q2; subst q3
    clear hm
    go_wp2_with fail
    refine (hMt _ (hT.below hs5)).mono ?_
    clear hMt
    rintro e w6 ⟨rfl, hb6⟩
    have hs6 := below_step hs5 hb6
    have hA6 := hA5.below hb6
    have hB6 := hB5.below hb6
    have hC6 := hC5.below hb6
    clear hA5 hB5 hC5 hb6 hs5
    go_wp2_with fail
    refine (hMf _ (hT.below hs6)).mono ?_
    clear hMf
    rintro e w7 ⟨rfl, hb7⟩
    have hs7 := below_step hs6 hb7
    have hA7 := hA6.below hb7
    have hB7 := hB6.below hb7
    have hC7 := hC6.below hb7
    obtain ⟨b0, b1, b2⟩ : _ ∧ _ ∧ _ := ⟨hB7.c0, hB7.c1, hB7.c2⟩
    obtain ⟨d0, d1, d2⟩ : _ ∧ _ ∧ _ := ⟨hC7.c0, hC7.c1, hC7.c2⟩
    clear hA6 hB6 hC6 hb7 hs6 hB7
    obtain ⟨a0, a1, a2⟩ : _ ∧ _ ∧ _ := ⟨hA7.c0, hA7.c1, hA7.c2⟩
    go_wp2_with fail
    refine (plainRight_any k1 n1 t1 _ HLN.out (hT.below hs7)).mono ?_
    rw [G1.out]
    rintro e w8 ⟨rfl, hb8⟩
    have hs8 := below_step hs7 hb8
    have hA8 := hA7.below hb8
    have hC8 := hC7.below hb8
    clear a0 a1 a2 hA7 hC7 hb8 hs7
    obtain ⟨a0, a1, a2⟩ : _ ∧ _ ∧ _ := ⟨hA8.c0, hA8.c1, hA8.c2⟩
    obtain ⟨d0, d1, d2⟩ : _ ∧ _ ∧ _ := ⟨hC8.c0, hC8.c1, hC8.c2⟩
    clear hA8 hC8
    by_cases hSe : 0 < S.size
    · have he := isEmpty_false hSe
      have q := (G4.out (by rw [← Lib.toList_data]; exact he)).symm
      injection q with q0 q3
      injection q0 with q0 q1 q2
      subst q0; subst q1; subst q2; subst q3
      rcases G2.out with h2 | h2
      · subst h2
        rcases G3.out with h3 | h3
        · have h3a : ¬ k1 = 3 := h3
          have h3b : (k1 == 3) = false := by simpa using h3a
          go_wp2
          all_goals (go_ret; exact ⟨rfl, hs8⟩)
        · subst h3
          go_wp2
          all_goals (go_ret; exact ⟨rfl, hs8⟩)
      · unfold sc0 at h2
        injection h2 with q0 q1 q2
        subst q0; subst q1; subst q2
        go_wp2
        all_goals (go_ret; exact ⟨rfl, hs8⟩)
    · have he := isEmpty_true hSe
      rcases G2.out with h2 | h2
      · subst h2
        rcases G3.out with h3 | h3
        · have h3a : ¬ k1 = 3 := h3
          have h3b : (k1 == 3) = false := by simpa using h3a
          go_wp2
          all_goals (go_ret; exact ⟨rfl, hs8⟩)
        · subst h3
          go_wp2
          all_goals (go_ret; exact ⟨rfl, hs8⟩)
      · unfold sc0 at h2
        injection h2 with q0 q1 q2
        subst q0; subst q1; subst q2
        go_wp2
        all_goals (go_ret; exact ⟨rfl, hs8⟩)
end Go.Proofs.YtccjfoldjbmnfaaDoor
