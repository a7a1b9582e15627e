import Derived.Test.YtghelkkndkbejaaGreatDoorGy
/- What is proved: law 15's TokTells, at every text and two lists of pieces. -/
namespace Go.Proofs.YtghelkkndkbejaaGreatDoor
open Go Go.RowKit Go.Lib
set_option linter.unusedSimpArgs false
set_option linter.unusedVariables false

theorem readT_len (l : List UInt8) : (readT l).1.length ≤ l.length := by
  rcases readT_cases l with ⟨e, p, hr, _, _⟩ | ⟨ts, hr, hri⟩
  · rw [hr]; simp
  · rw [hr]
    cases ts with
    | nil => simp
    | cons t r =>
      have hpos : 0 < l.length := by have := hri.2.1; omega
      have := rises_len (t :: r) (-1) 0 (by omega) (by omega) hri
      simp only
      omega
theorem few_len (xs : List TkI) : ((xs.take 30).map cutI).length ≤ 1000000 := by
  rw [List.length_map, List.length_take]; omega

set_option maxRecDepth 100000 in
set_option maxHeartbeats 8000000 in
theorem TokTells_any (s : ByteArray) (u v : Value) (xs ys : List TkI) (w : World) (hx : TokIn w u xs) (hy : TokIn w v ys) (hT : Tabs w) (hE : ErrTy w) :
    Calls Tryz.prog 3 #[.string s, u, v] w fun e w' => e = .returned (.bool true) ∧ Below w.heap.size w w' := by
  have hcs := cut_same s
  have hSs := cut2_size s
  obtain ⟨S, hS⟩ : ∃ S, cut2 s = S := ⟨_, rfl⟩
  rw [hS] at hcs hSs
  have hR := fun wx hx => tRead_any S wx (by omega) (hT.below hx) (hE.below hx)
  have hR15 := fun wx => refRead15_any S wx (by omega)
  have hsh := shown_any w hT hE
  have hlen := readT_len S.data.toList
  rw [← Lib.size_eq] at hlen
  have hI := fun wx => isName_any S wx (by omega)
  have hI15 := fun wx => refIsName_same S wx (by omega)
  have hfx := few_len xs
  have hfy := few_len ys
  have hFx := fun wx (hb : Below w.heap.size w wx) => few_any u xs wx (hx.below hb)
  have hFy := fun wx (hb : Below w.heap.size w wx) => few_any v ys wx (hy.below hb)
  obtain ⟨R, hRR⟩ : ∃ R, readT S.data.toList = R := ⟨_, rfl⟩
  obtain ⟨fx, hfxe⟩ : ∃ fx, (xs.take 30).map cutI = fx := ⟨_, rfl⟩
  obtain ⟨fy, hfye⟩ : ∃ fy, (ys.take 30).map cutI = fy := ⟨_, rfl⟩
  obtain ⟨nb, hnb⟩ : ∃ b, nameB S.data.toList = b := ⟨_, rfl⟩
  rw [hRR] at hR hR15 hlen
  rw [hnb] at hI hI15
  unfold FewPost at hFx hFy
  rw [hfxe] at hfx hFx
  rw [hfye] at hfy hFy
  obtain ⟨A, ca, rfl, -⟩ := hx
  obtain ⟨B, cb, rfl, -⟩ := hy
  clear hS hT hE hRR hnb hfxe hfye
  go_enter Tryz.func3, Tryz.ntmps3
  go_wp2_with fail
  refine hsh.mono ?_
  rintro e w1 ⟨rfl, hs1⟩
  clear hsh
  go_wp2_with fail
  refine (hcs w1).mono ?_
  rintro e w1' ⟨rfl, hw⟩
  subst w1'
  clear hcs
  go_wp2_with fail
  refine (hFx _ hs1).mono ?_
  rintro e w2 ⟨u2, rfl, hu2, hb2⟩
  replace hs1 := below_step hs1 hb2
  clear hFx hb2
  go_wp2_with fail
  refine (hFy _ hs1).mono ?_
  rintro e w3 ⟨v2, rfl, hv2, hb3⟩
  replace hs1 := below_step hs1 hb3
  replace hu2 := hu2.below hb3
  clear hFy hb3
  go_wp2_with fail
  refine (hR _ hs1).mono ?_
  rintro e w4 ⟨a4, rfl, ha4, hb4⟩
  replace hs1 := below_step hs1 hb4
  replace hu2 := hu2.below hb4
  replace hv2 := hv2.below hb4
  clear hR hb4
  go_wp2_with fail
  refine (hR15 _).mono ?_
  rintro e w5 ⟨a5, rfl, ha5, hb5⟩
  replace hs1 := below_step hs1 hb5
  replace hu2 := hu2.below hb5
  replace hv2 := hv2.below hb5
  replace ha4 := ha4.below hb5
  clear hR15 hb5
  have hS1 := refSame15_any a4 a5 R.1 R.1 w5 ha4 ha5 (by omega) (by omega)
  rw [show decide (R.1 = R.1) = true from decide_eq_true rfl] at hS1
  clear ha4 ha5
  go_wp2_with fail
  refine hS1.mono ?_
  rintro e w6 ⟨rfl, hb6⟩
  replace hs1 := below_step hs1 hb6
  replace hu2 := hu2.below hb6
  replace hv2 := hv2.below hb6
  clear hS1 hb6
  obtain ⟨sb, hsb⟩ : ∃ b, decide (fx = fy) = b := ⟨_, rfl⟩
  have hS2 := tSame_anyI u2 v2 fx fy w6 hu2 hv2 hfx hfy
  rw [hsb] at hS2
  have hS3 := fun wx (hb : Below w6.heap.size w6 wx) => refSame15_anyI u2 v2 fx fy wx (hu2.below hb) (hv2.below hb) hfx hfy
  rw [hsb] at hS3
  clear hsb hu2 hv2
  go_wp2_with fail
  refine hS2.mono ?_
  rintro e w7 ⟨rfl, hb7⟩
  replace hs1 := below_step hs1 hb7
  have hS4 := hS3 _ hb7
  clear hS2 hS3 hb7
  go_wp2_with fail
  refine hS4.mono ?_
  rintro e w8 ⟨rfl, hb8⟩
  replace hs1 := below_step hs1 hb8
  clear hS4 hb8
  go_wp2_with fail
  refine (hI _).mono ?_
  rintro e w9 ⟨rfl, hb9⟩
  replace hs1 := below_step hs1 hb9
  clear hI hb9
  go_wp2_with fail
  refine (hI15 _).mono ?_
  rintro e w10 ⟨rfl, hw10⟩
  subst w10
  clear hI15
  go_wp2
  go_ret
  exact ⟨by simp, hs1⟩
end Go.Proofs.YtghelkkndkbejaaGreatDoor
