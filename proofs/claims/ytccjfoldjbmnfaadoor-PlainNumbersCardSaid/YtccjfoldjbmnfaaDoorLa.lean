import Derived.Test.YtccjfoldjbmnfaaDoorPf
namespace Go.Proofs.YtccjfoldjbmnfaaDoor
open Go Go.RowKit Go.Lib
set_option linter.unusedSimpArgs false

/-- Behind a block that was laid and a call. -/
theorem laid_call {w w' : World} {o : Obj} (hb : Below (w.alloc o).heap.size (w.alloc o) w') : w'.heap[w.heap.size]? = some o ∧ Below w.heap.size w w' :=
  ⟨heap_new _ _ hb, ((Below.refl _ w).alloc (Nat.le_refl _) _).trans (hb.mono (by simp))⟩
theorem below_step {w0 w w' : World} (h : Below w0.heap.size w0 w) (hb : Below w.heap.size w w') : Below w0.heap.size w0 w' := h.trans (hb.mono h.size)

set_option maxRecDepth 100000 in
set_option maxHeartbeats 1000000 in
theorem shown_any (w : World) (hT : Tabs w) :
    Calls Tryd.prog 8 #[] w fun e w' => e = .returned (.bool true) ∧ Below w.heap.size w w' := by
  go_enter Tryd.func8, Tryd.ntmps8
  go_wp2_with fail
  refine (Resolve_any ⟨#[45, 49, 50]⟩ _ (by decide) hT).mono ?_
  rw [sh_a]
  rintro e w1 ⟨rfl, hb1⟩
  unfold scV
  go_wp2_with fail
  refine (Resolve_any ⟨#[97, 58, 98]⟩ _ (by decide) ((hT.below hb1).below ((Below.refl _ w1).alloc (Nat.le_refl _) _))).mono ?_
  rw [sh_b]
  rintro e w2 ⟨rfl, hb2⟩
  unfold scV
  obtain ⟨hA, hs2⟩ := laid_call hb2
  have hb02 := below_step hb1 hs2
  clear hb2
  go_wp2_with fail
  refine (Resolve_any ⟨#[49, 46, 53]⟩ _ (by decide) ((hT.below hb02).below ((Below.refl _ w2).alloc (Nat.le_refl _) _))).mono ?_
  rw [sh_g]
  rintro e w3 ⟨rfl, hb3⟩
  unfold scV
  obtain ⟨hB, hs3⟩ := laid_call hb3
  have hb03 := below_step hb02 hs3
  have hA3 := heap_below hA hs3
  clear hb3 hs2 hs3 hA hb02 hb1
  unfold sc0
  go_wp2_with fail
  refine (Resolve_any ⟨#[97, 58, 32, 98]⟩ _ (by decide) ((hT.below hb03).below ((Below.refl _ w3).alloc (Nat.le_refl _) _))).mono ?_
  rw [sh_h]
  rintro e w4 ⟨rfl, hb4⟩
  unfold scV
  obtain ⟨_, hs4⟩ := laid_call hb4
  have hb04 := below_step hb03 hs4
  have hA4 := heap_below hA3 hs4
  have hB4 := heap_below hB hs4
  clear hb4 hs4 hb03 hA3 hB
  unfold sc0
  go_wp2_with fail
  refine (Read_any ⟨#[126]⟩ true _ (by decide) ((hT.below hb04).below ((Below.refl _ w4).alloc (Nat.le_refl _) _))).mono ?_
  rw [sh_c]
  rintro e w5 ⟨rfl, hb5⟩
  unfold scV
  obtain ⟨_, hs5⟩ := laid_call hb5
  have hb05 := below_step hb04 hs5
  have hA5 := heap_below hA4 hs5
  have hB5 := heap_below hB4 hs5
  clear hb5 hs5 hb04 hA4 hB4
  unfold sc0
  go_wp2_with fail
  refine (Read_any ⟨#[97, 44, 98]⟩ true _ (by decide) ((hT.below hb05).below ((Below.refl _ w5).alloc (Nat.le_refl _) _))).mono ?_
  rw [sh_j]
  rintro e w6 ⟨rfl, hb6⟩
  unfold scV
  obtain ⟨hC, hs6⟩ := laid_call hb6
  have hb06 := below_step hb05 hs6
  have hA6 := heap_below hA5 hs6
  have hB6 := heap_below hB5 hs6
  clear hb6 hs6 hb05 hA5 hB5
  unfold sc0
  have hl6 := (Below.refl w6.heap.size w6).alloc (Nat.le_refl _) (.cells #[.int .i64 0, .int .i64 0, .string ⟨#[]⟩] 23)
  have hA7 := heap_below hA6 hl6
  have hB7 := heap_below hB6 hl6
  have hC7 := heap_below hC hl6
  obtain ⟨a0, a1, a2, -, -, -⟩ := blk3 hA7
  obtain ⟨b0, b1, b2, -, -, -⟩ := blk3 hB7
  obtain ⟨d0, d1, d2, -, -, -⟩ := blk3 hC7
  clear hA6 hB6 hC hA7 hB7 hC7
  go_wp2_with fail
  refine (May_any ⟨#[97, 44, 98]⟩ false _ (by decide) ((hT.below hb06).below ((Below.refl _ w6).alloc (Nat.le_refl _) _))).mono ?_
  rw [sh_m]
  rintro e w7 ⟨rfl, hb7⟩
  obtain ⟨_, hs7⟩ := laid_call hb7
  have hb07 := below_step hb06 hs7
  have a0' := cell_below a0 hb7
  have a1' := cell_below a1 hb7
  have a2' := cell_below a2 hb7
  clear a0 a1 a2 b0 b1 b2 d0 d1 d2 hb7 hs7 hl6 hb06
  go_wp2_with fail
  refine (plainRight_any 2 (-12) ⟨#[]⟩ _ (by decide) (hT.below hb07)).mono ?_
  rw [show rightP ⟨2, -12, ⟨#[]⟩⟩ = true from rfl]
  rintro e w8 ⟨rfl, hb8⟩
  have hb08 := below_step hb07 hb8
  go_wp2_with fail
  refine (plainRight_any 1 2 ⟨#[]⟩ _ (by decide) (hT.below hb08)).mono ?_
  rw [show rightP ⟨1, 2, ⟨#[]⟩⟩ = false from rfl]
  rintro e w9 ⟨rfl, hb9⟩
  go_wp2
  go_ret
  exact ⟨rfl, below_step hb08 hb9⟩

/-- The first one hundred bytes. -/
def cutB (s : ByteArray) : ByteArray := s.extract 0 100
theorem cutB_size (s : ByteArray) : (cutB s).size ≤ 100 := by unfold cutB; rw [ByteArray.size_extract]; omega
theorem cut_same (s : ByteArray) (w : World) :
    Calls Tryd.prog 9 #[.string s] w fun e w' => e = .returned (.string (cutB s)) ∧ w' = w := by
  have hmin : (min (s.size : Int) 100) = ((min s.size 100 : Nat) : Int) := by omega
  have hle : ((min s.size 100 : Nat) : Int) ≤ (s.size : Int) := by omega
  have hC := hid (show cutB s = s.extract 0 (min s.size 100) by
    unfold cutB
    rw [Lib.extract_upto, Lib.extract_upto]
    congr 2
    by_cases h : s.size ≤ 100
    · rw [Nat.min_eq_left h, List.take_of_length_le (by rw [← Lib.size_eq]; omega), List.take_of_length_le (by rw [← Lib.size_eq]; omega)]
    · rw [Nat.min_eq_right (by omega)])
  obtain ⟨m, hm⟩ : ∃ m, min s.size 100 = m := ⟨_, rfl⟩
  go_enter Tryd.func9, Tryd.ntmps9
  go_wp2
  go_ret
  exact ⟨by rw [hC.out, hm]; rfl, rfl⟩
end Go.Proofs.YtccjfoldjbmnfaaDoor
