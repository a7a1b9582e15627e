import Derived.Test.YtkdhaipjfkalfaaGreatDoorLgb
/- What is proved: the walk of ScalSorts: it returns true whatever comes in. -/
namespace Go.Proofs.YtkdhaipjfkalfaaGreatDoor
open Go Go.RowKit Go.Lib Go.Sort
set_option linter.unusedSimpArgs false
set_option linter.unusedVariables false

set_option maxRecDepth 100000 in
set_option maxHeartbeats 4000000 in
theorem ScalSorts_any (v : Value) (xs : List Sc) (w : World) (hx : ScIn w v xs) (hT : Tabs w) :
    Calls Tryz.prog 4 #[v] w fun e w' => e = .returned (.bool true) ∧ Below w.heap.size w w' := by
  have hF := fun wx (hb : Below w.heap.size w wx) => Few_any v xs wx (hx.below hb)
  have hl := few_len xs
  unfold FewPost at hF
  obtain ⟨fs, hfs⟩ : ∃ fs, fewS xs = fs := ⟨_, rfl⟩
  rw [hfs] at hF hl
  obtain ⟨A, ca, rfl, -⟩ := hx
  have hSH := shown_any w hT
  clear hfs hT
  go_enter Tryz.func4, Tryz.ntmps4
  go_wp2_with fail
  refine hSH.mono ?_
  rintro e w1 ⟨rfl, hs⟩
  clear hSH
  go_wp2_with fail
  refine (hF _ hs).mono ?_
  rintro e w2 ⟨u, rfl, hu, hb⟩
  have hu := hu.sl
  replace hs := below_step hs hb
  clear hF hb
  go_wp2_with fail
  refine (sort_any u fs w2 hu (by omega)).mono ?_
  rintro e w3 ⟨v3, rfl, hv3, hb⟩
  replace hs := below_step hs hb
  replace hu := hu.below hb
  clear hb
  go_wp2_with fail
  refine (refSort_any u fs w3 hu (by omega)).mono ?_
  rintro e w4 ⟨v4, rfl, hv4, hb⟩
  replace hs := below_step hs hb
  replace hu := hu.below hb
  replace hv3 := hv3.below hb
  clear hb
  go_wp2_with fail
  refine (refSame06_any v3 v4 _ _ w4 hv3 hv4 (by rw [length_sortL]; omega) (by rw [length_sortL]; omega)).mono ?_
  rw [decide_eq_true (rfl : sortL cmpSc fs = sortL cmpSc fs)]
  rintro e w5 ⟨rfl, hb⟩
  replace hs := below_step hs hb
  replace hu := hu.below hb
  clear hb hv3 hv4
  obtain ⟨d, hd⟩ : ∃ d, dupL fs = d := ⟨_, rfl⟩
  have h6 := fun wx hx => twice_any u fs wx hx (by omega)
  have h7 := fun wx hx => refTwice_any u fs wx hx (by omega)
  rw [hd] at h6 h7
  clear hd
  go_wp2_with fail
  refine (h6 _ hu).mono ?_
  rintro e w6 ⟨rfl, hb⟩
  replace hs := below_step hs hb
  replace hu := hu.below hb
  clear hb
  go_wp2_with fail
  refine (h7 _ hu).mono ?_
  rintro e w7 ⟨rfl, hb⟩
  replace hs := below_step hs hb
  clear hb hu h6 h7
  go_wp2
  go_ret
  exact ⟨rfl, hs⟩
end Go.Proofs.YtkdhaipjfkalfaaGreatDoor
