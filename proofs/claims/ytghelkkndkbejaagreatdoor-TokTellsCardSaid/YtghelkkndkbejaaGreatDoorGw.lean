import Derived.Test.YtghelkkndkbejaaGreatDoorGf
import Derived.Test.YtghelkkndkbejaaGreatDoorGv
/- What is proved: the reference for layer 15: the piece at a place. -/
namespace Go.Proofs.YtghelkkndkbejaaGreatDoor
open Go Go.RowKit Go.Lib
set_option linter.unusedSimpArgs false
set_option linter.unusedVariables false

theorem blank_at (s : ByteArray) (k : Nat) (wx : World) (hs : s.size ≤ 1000000) (hk : k ≤ 1000001) : Calls Tryz.prog 53 #[.string s, .int .i64 ((k : Int) + 1)] wx fun e w' => e = .returned (.bool (blankB s.data.toList (k + 1))) ∧ w' = wx := by
  have h := refBlank_same s (k + 1) wx hs (by omega)
  rwa [show ((k + 1 : Nat) : Int) = (k : Int) + 1 by omega] at h
/-- The piece that is being made. -/
abbrev tok2 (w : World) (k p : Nat) : World := (tok0 w).alloc (.cells #[.int .i64 k, .string ⟨#[]⟩, .int .i64 p] 33)
theorem tok2_ox (w : World) (k p : Nat) : Ox w (.int .i64 0) (.string ⟨#[]⟩) (.int .i64 0) (tok2 w k p) := (Ox.new w _ _ _).below ((Below.refl _ _).alloc (Nat.le_refl _) _)

set_option maxRecDepth 100000 in
set_option maxHeartbeats 8000000 in
theorem refOne15_dq (s : ByteArray) (p d : Nat) (w : World) (hs : s.size ≤ 100000) (hp : p < s.size) (hv : validD s.data.toList = true) (hc : s[p]'hp = 34) :
    Calls Tryz.prog 29 #[.string s, .int .i64 p, .int .i64 d] w (PostO (oneT s.data.toList p d) p w) := by
  have hpi : (p : Int) < (s.size : Int) := by omega
  have hp0 : (0 : Int) ≤ (p : Int) := by omega
  have hO2 := tok2_ox w 0 p
  have HONE := hid (show oneT s.data.toList p d = oneC s.data.toList p d 34 by unfold oneT; rw [getD_byte s p hp, hc])
  have hq : quoteB s.data.toList p 34 := ⟨by rw [← Lib.size_eq]; exact hp, .inl ⟨by rw [getD_byte s p hp, hc], rfl⟩⟩
  have hR4 := fun wx => refRead04_any s p 34 wx hs hq hv
  have hto := readQ_to hq (by decide) hv
  have herr := readQ_err hq hv
  rw [mk_lst] at hto herr
  have HQ := hid (show oneC s.data.toList p d 34 = quotedT s.data.toList p d from oneC_quoted (.inl rfl))
  have HQT := hid (show quotedT s.data.toList p d = (if (readQ s p).2.2 = 0 then (if closedB s.data.toList (readQ s p).2.1 d || isB s.data.toList (readQ s p).2.1 [58] then .ok 2 (readQ s p).1 (readQ s p).2.1 d else .bad 90) else .bad (readQ s p).2.2.toNat) by unfold quotedT; rw [mk_lst])
  obtain ⟨⟨t, n, er⟩, hx⟩ : ∃ x, readQ s p = x := ⟨_, rfl⟩
  rw [hx] at hR4 hto herr HQT
  simp only at hto herr HQT
  have HX := hid hx
  clear hx hq
  have HC := hid hc
  rcases herr with rfl | rfl | rfl
  · obtain ⟨-, hto2⟩ := hto rfl
    rw [← Lib.size_eq] at hto2
    obtain ⟨cb, hcb⟩ : ∃ b, closedB s.data.toList n d = b := ⟨_, rfl⟩
    have hCL := fun wx => refClosed_same s n d wx (by omega) (by omega)
    rw [hcb] at hCL
    have HCB := hid hcb
    cases cb with
    | true =>
      have HRES := hid (show oneT s.data.toList p d = .ok 2 t n d by rw [HONE.out, HQ.out, HQT.out, HCB.out]; rfl)
      clear hcb hto HQT HQ
      go_enter Tryz.func29, Tryz.ntmps29
      go_wp2_with fail
      refine (hR4 _).mono ?_
      rintro e w1 ⟨rfl, hb1⟩
      replace hO2 := hO2.below hb1
      have ht := heap_below (World.alloc_heap_new (tok0 w) (.cells #[.int .i64 0, .string ⟨#[]⟩, .int .i64 p] 33)) hb1
      rw [World.size_alloc] at ht
      obtain ⟨t0, t1, t2, _⟩ := blk3 ht
      clear hR4 hb1 ht
      unfold resQ
      go_wp2_with fail
      refine (hCL _).mono ?_
      rintro e w2 ⟨rfl, hw⟩
      subst w2
      clear hCL
      obtain ⟨n0, n1, n2, g0, g1, g2⟩ := hO2.cells
      go_wp2
      have hF := hO2.fin (.int .i64 2) (.string ⟨t.toArray⟩) (.int .i64 p)
      obtain ⟨e0, e1, e2, _⟩ := hF.cells
      refine bodyPost_ret (v := .tuple #[.agg #[.int .i64 2, .string ⟨t.toArray⟩, .int .i64 p], .int .i64 n, .int .i64 0]) (by simp [results, Tryz.results29, go_sem, e0, e1, e2]) rfl ?_
      rw [show oneT s.data.toList p d = .ok 2 t n d from HRES.out]
      exact postO_ok rfl (by first | exact hF.bel | exact ((Below.refl _ w).alloc (Nat.le_refl _) _).alloc (by simp) _)
    | false =>
      have hnlt : n < s.size := by
        unfold closedB at hcb
        simp only [Bool.or_eq_false_iff] at hcb
        exact blank_lt hcb.1
      have hnli : (n : Int) < (s.size : Int) := by omega
      obtain ⟨c2, hc2⟩ : ∃ c2, s[n]'hnlt = c2 := ⟨_, rfl⟩
      have HX58 := hid (isB_one hnlt hc2 58)
      cases hx58 : ((c2.toNat : Int) == 58)
      · have HRES := hid (show oneT s.data.toList p d = .bad 90 by rw [HONE.out, HQ.out, HQT.out, HCB.out, HX58.out]; show (if (0 : Int) = 0 then (if (false || ((c2.toNat : Int) == 58)) = true then TR.ok 2 t n d else TR.bad 90) else _) = _; rw [hx58]; rfl)
        clear hcb hto HQT HQ HX58
        go_enter Tryz.func29, Tryz.ntmps29
        go_wp2_with fail
        refine (hR4 _).mono ?_
        rintro e w1 ⟨rfl, hb1⟩
        replace hO2 := hO2.below hb1
        have ht := heap_below (World.alloc_heap_new (tok0 w) (.cells #[.int .i64 0, .string ⟨#[]⟩, .int .i64 p] 33)) hb1
        rw [World.size_alloc] at ht
        obtain ⟨t0, t1, t2, _⟩ := blk3 ht
        clear hR4 hb1 ht
        unfold resQ
        go_wp2_with fail
        refine (hCL _).mono ?_
        rintro e w2 ⟨rfl, hw⟩
        subst w2
        clear hCL
        obtain ⟨n0, n1, n2, g0, g1, g2⟩ := hO2.cells
        go_wp2
        have hF := hO2.fin (.int .i64 0) (.string ⟨#[]⟩) (.int .i64 p)
        obtain ⟨e0, e1, e2, _⟩ := hF.cells
        refine bodyPost_ret (v := .tuple #[.agg #[.int .i64 0, .string ⟨#[]⟩, .int .i64 p], .int .i64 0, .int .i64 90]) (by simp [results, Tryz.results29, go_sem, e0, e1, e2]) rfl ?_
        rw [show oneT s.data.toList p d = .bad 90 from HRES.out]
        exact postO_bad rfl (by first | exact hF.bel | exact ((Below.refl _ w).alloc (Nat.le_refl _) _).alloc (by simp) _)
      · have HRES := hid (show oneT s.data.toList p d = .ok 2 t n d by rw [HONE.out, HQ.out, HQT.out, HCB.out, HX58.out]; show (if (0 : Int) = 0 then (if (false || ((c2.toNat : Int) == 58)) = true then TR.ok 2 t n d else TR.bad 90) else _) = _; rw [hx58]; rfl)
        clear hcb hto HQT HQ HX58
        go_enter Tryz.func29, Tryz.ntmps29
        go_wp2_with fail
        refine (hR4 _).mono ?_
        rintro e w1 ⟨rfl, hb1⟩
        replace hO2 := hO2.below hb1
        have ht := heap_below (World.alloc_heap_new (tok0 w) (.cells #[.int .i64 0, .string ⟨#[]⟩, .int .i64 p] 33)) hb1
        rw [World.size_alloc] at ht
        obtain ⟨t0, t1, t2, _⟩ := blk3 ht
        clear hR4 hb1 ht
        unfold resQ
        go_wp2_with fail
        refine (hCL _).mono ?_
        rintro e w2 ⟨rfl, hw⟩
        subst w2
        clear hCL
        obtain ⟨n0, n1, n2, g0, g1, g2⟩ := hO2.cells
        go_wp2
        have hF := hO2.fin (.int .i64 2) (.string ⟨t.toArray⟩) (.int .i64 p)
        obtain ⟨e0, e1, e2, _⟩ := hF.cells
        refine bodyPost_ret (v := .tuple #[.agg #[.int .i64 2, .string ⟨t.toArray⟩, .int .i64 p], .int .i64 n, .int .i64 0]) (by simp [results, Tryz.results29, go_sem, e0, e1, e2]) rfl ?_
        rw [show oneT s.data.toList p d = .ok 2 t n d from HRES.out]
        exact postO_ok rfl (by first | exact hF.bel | exact ((Below.refl _ w).alloc (Nat.le_refl _) _).alloc (by simp) _)
  · have HRES := hid (show oneT s.data.toList p d = .bad 41 by rw [HONE.out, HQ.out, HQT.out]; rfl)
    clear hto HQT HQ
    go_enter Tryz.func29, Tryz.ntmps29
    go_wp2_with fail
    refine (hR4 _).mono ?_
    rintro e w1 ⟨rfl, hb1⟩
    replace hO2 := hO2.below hb1
    have ht := heap_below (World.alloc_heap_new (tok0 w) (.cells #[.int .i64 0, .string ⟨#[]⟩, .int .i64 p] 33)) hb1
    rw [World.size_alloc] at ht
    obtain ⟨t0, t1, t2, _⟩ := blk3 ht
    clear hR4 hb1 ht
    unfold resQ
    obtain ⟨n0, n1, n2, g0, g1, g2⟩ := hO2.cells
    go_wp2
    have hF := hO2.fin (.int .i64 0) (.string ⟨#[]⟩) (.int .i64 p)
    obtain ⟨e0, e1, e2, _⟩ := hF.cells
    refine bodyPost_ret (v := .tuple #[.agg #[.int .i64 0, .string ⟨#[]⟩, .int .i64 p], .int .i64 0, .int .i64 41]) (by simp [results, Tryz.results29, go_sem, e0, e1, e2]) rfl ?_
    rw [show oneT s.data.toList p d = .bad 41 from HRES.out]
    exact postO_bad rfl (by first | exact hF.bel | exact ((Below.refl _ w).alloc (Nat.le_refl _) _).alloc (by simp) _)
  · have HRES := hid (show oneT s.data.toList p d = .bad 42 by rw [HONE.out, HQ.out, HQT.out]; rfl)
    clear hto HQT HQ
    go_enter Tryz.func29, Tryz.ntmps29
    go_wp2_with fail
    refine (hR4 _).mono ?_
    rintro e w1 ⟨rfl, hb1⟩
    replace hO2 := hO2.below hb1
    have ht := heap_below (World.alloc_heap_new (tok0 w) (.cells #[.int .i64 0, .string ⟨#[]⟩, .int .i64 p] 33)) hb1
    rw [World.size_alloc] at ht
    obtain ⟨t0, t1, t2, _⟩ := blk3 ht
    clear hR4 hb1 ht
    unfold resQ
    obtain ⟨n0, n1, n2, g0, g1, g2⟩ := hO2.cells
    go_wp2
    have hF := hO2.fin (.int .i64 0) (.string ⟨#[]⟩) (.int .i64 p)
    obtain ⟨e0, e1, e2, _⟩ := hF.cells
    refine bodyPost_ret (v := .tuple #[.agg #[.int .i64 0, .string ⟨#[]⟩, .int .i64 p], .int .i64 0, .int .i64 42]) (by simp [results, Tryz.results29, go_sem, e0, e1, e2]) rfl ?_
    rw [show oneT s.data.toList p d = .bad 42 from HRES.out]
    exact postO_bad rfl (by first | exact hF.bel | exact ((Below.refl _ w).alloc (Nat.le_refl _) _).alloc (by simp) _)

set_option maxRecDepth 100000 in
set_option maxHeartbeats 8000000 in
theorem refOne15_sq (s : ByteArray) (p d : Nat) (w : World) (hs : s.size ≤ 100000) (hp : p < s.size) (hv : validD s.data.toList = true) (hc : s[p]'hp = 39) :
    Calls Tryz.prog 29 #[.string s, .int .i64 p, .int .i64 d] w (PostO (oneT s.data.toList p d) p w) := by
  have hpi : (p : Int) < (s.size : Int) := by omega
  have hp0 : (0 : Int) ≤ (p : Int) := by omega
  have hO2 := tok2_ox w 0 p
  have HONE := hid (show oneT s.data.toList p d = oneC s.data.toList p d 39 by unfold oneT; rw [getD_byte s p hp, hc])
  have hq : quoteB s.data.toList p 39 := ⟨by rw [← Lib.size_eq]; exact hp, .inr ⟨by rw [getD_byte s p hp, hc], rfl⟩⟩
  have hR4 := fun wx => refRead04_any s p 39 wx hs hq hv
  have hto := readQ_to hq (by decide) hv
  have herr := readQ_err hq hv
  rw [mk_lst] at hto herr
  have HQ := hid (show oneC s.data.toList p d 39 = quotedT s.data.toList p d from oneC_quoted (.inr rfl))
  have HQT := hid (show quotedT s.data.toList p d = (if (readQ s p).2.2 = 0 then (if closedB s.data.toList (readQ s p).2.1 d || isB s.data.toList (readQ s p).2.1 [58] then .ok 2 (readQ s p).1 (readQ s p).2.1 d else .bad 90) else .bad (readQ s p).2.2.toNat) by unfold quotedT; rw [mk_lst])
  obtain ⟨⟨t, n, er⟩, hx⟩ : ∃ x, readQ s p = x := ⟨_, rfl⟩
  rw [hx] at hR4 hto herr HQT
  simp only at hto herr HQT
  have HX := hid hx
  clear hx hq
  have HC := hid hc
  rcases herr with rfl | rfl | rfl
  · obtain ⟨-, hto2⟩ := hto rfl
    rw [← Lib.size_eq] at hto2
    obtain ⟨cb, hcb⟩ : ∃ b, closedB s.data.toList n d = b := ⟨_, rfl⟩
    have hCL := fun wx => refClosed_same s n d wx (by omega) (by omega)
    rw [hcb] at hCL
    have HCB := hid hcb
    cases cb with
    | true =>
      have HRES := hid (show oneT s.data.toList p d = .ok 2 t n d by rw [HONE.out, HQ.out, HQT.out, HCB.out]; rfl)
      clear hcb hto HQT HQ
      go_enter Tryz.func29, Tryz.ntmps29
      go_wp2_with fail
      refine (hR4 _).mono ?_
      rintro e w1 ⟨rfl, hb1⟩
      replace hO2 := hO2.below hb1
      have ht := heap_below (World.alloc_heap_new (tok0 w) (.cells #[.int .i64 0, .string ⟨#[]⟩, .int .i64 p] 33)) hb1
      rw [World.size_alloc] at ht
      obtain ⟨t0, t1, t2, _⟩ := blk3 ht
      clear hR4 hb1 ht
      unfold resQ
      go_wp2_with fail
      refine (hCL _).mono ?_
      rintro e w2 ⟨rfl, hw⟩
      subst w2
      clear hCL
      obtain ⟨n0, n1, n2, g0, g1, g2⟩ := hO2.cells
      go_wp2
      have hF := hO2.fin (.int .i64 2) (.string ⟨t.toArray⟩) (.int .i64 p)
      obtain ⟨e0, e1, e2, _⟩ := hF.cells
      refine bodyPost_ret (v := .tuple #[.agg #[.int .i64 2, .string ⟨t.toArray⟩, .int .i64 p], .int .i64 n, .int .i64 0]) (by simp [results, Tryz.results29, go_sem, e0, e1, e2]) rfl ?_
      rw [show oneT s.data.toList p d = .ok 2 t n d from HRES.out]
      exact postO_ok rfl (by first | exact hF.bel | exact ((Below.refl _ w).alloc (Nat.le_refl _) _).alloc (by simp) _)
    | false =>
      have hnlt : n < s.size := by
        unfold closedB at hcb
        simp only [Bool.or_eq_false_iff] at hcb
        exact blank_lt hcb.1
      have hnli : (n : Int) < (s.size : Int) := by omega
      obtain ⟨c2, hc2⟩ : ∃ c2, s[n]'hnlt = c2 := ⟨_, rfl⟩
      have HX58 := hid (isB_one hnlt hc2 58)
      cases hx58 : ((c2.toNat : Int) == 58)
      · have HRES := hid (show oneT s.data.toList p d = .bad 90 by rw [HONE.out, HQ.out, HQT.out, HCB.out, HX58.out]; show (if (0 : Int) = 0 then (if (false || ((c2.toNat : Int) == 58)) = true then TR.ok 2 t n d else TR.bad 90) else _) = _; rw [hx58]; rfl)
        clear hcb hto HQT HQ HX58
        go_enter Tryz.func29, Tryz.ntmps29
        go_wp2_with fail
        refine (hR4 _).mono ?_
        rintro e w1 ⟨rfl, hb1⟩
        replace hO2 := hO2.below hb1
        have ht := heap_below (World.alloc_heap_new (tok0 w) (.cells #[.int .i64 0, .string ⟨#[]⟩, .int .i64 p] 33)) hb1
        rw [World.size_alloc] at ht
        obtain ⟨t0, t1, t2, _⟩ := blk3 ht
        clear hR4 hb1 ht
        unfold resQ
        go_wp2_with fail
        refine (hCL _).mono ?_
        rintro e w2 ⟨rfl, hw⟩
        subst w2
        clear hCL
        obtain ⟨n0, n1, n2, g0, g1, g2⟩ := hO2.cells
        go_wp2
        have hF := hO2.fin (.int .i64 0) (.string ⟨#[]⟩) (.int .i64 p)
        obtain ⟨e0, e1, e2, _⟩ := hF.cells
        refine bodyPost_ret (v := .tuple #[.agg #[.int .i64 0, .string ⟨#[]⟩, .int .i64 p], .int .i64 0, .int .i64 90]) (by simp [results, Tryz.results29, go_sem, e0, e1, e2]) rfl ?_
        rw [show oneT s.data.toList p d = .bad 90 from HRES.out]
        exact postO_bad rfl (by first | exact hF.bel | exact ((Below.refl _ w).alloc (Nat.le_refl _) _).alloc (by simp) _)
      · have HRES := hid (show oneT s.data.toList p d = .ok 2 t n d by rw [HONE.out, HQ.out, HQT.out, HCB.out, HX58.out]; show (if (0 : Int) = 0 then (if (false || ((c2.toNat : Int) == 58)) = true then TR.ok 2 t n d else TR.bad 90) else _) = _; rw [hx58]; rfl)
        clear hcb hto HQT HQ HX58
        go_enter Tryz.func29, Tryz.ntmps29
        go_wp2_with fail
        refine (hR4 _).mono ?_
        rintro e w1 ⟨rfl, hb1⟩
        replace hO2 := hO2.below hb1
        have ht := heap_below (World.alloc_heap_new (tok0 w) (.cells #[.int .i64 0, .string ⟨#[]⟩, .int .i64 p] 33)) hb1
        rw [World.size_alloc] at ht
        obtain ⟨t0, t1, t2, _⟩ := blk3 ht
        clear hR4 hb1 ht
        unfold resQ
        go_wp2_with fail
        refine (hCL _).mono ?_
        rintro e w2 ⟨rfl, hw⟩
        subst w2
        clear hCL
        obtain ⟨n0, n1, n2, g0, g1, g2⟩ := hO2.cells
        go_wp2
        have hF := hO2.fin (.int .i64 2) (.string ⟨t.toArray⟩) (.int .i64 p)
        obtain ⟨e0, e1, e2, _⟩ := hF.cells
        refine bodyPost_ret (v := .tuple #[.agg #[.int .i64 2, .string ⟨t.toArray⟩, .int .i64 p], .int .i64 n, .int .i64 0]) (by simp [results, Tryz.results29, go_sem, e0, e1, e2]) rfl ?_
        rw [show oneT s.data.toList p d = .ok 2 t n d from HRES.out]
        exact postO_ok rfl (by first | exact hF.bel | exact ((Below.refl _ w).alloc (Nat.le_refl _) _).alloc (by simp) _)
  · have HRES := hid (show oneT s.data.toList p d = .bad 41 by rw [HONE.out, HQ.out, HQT.out]; rfl)
    clear hto HQT HQ
    go_enter Tryz.func29, Tryz.ntmps29
    go_wp2_with fail
    refine (hR4 _).mono ?_
    rintro e w1 ⟨rfl, hb1⟩
    replace hO2 := hO2.below hb1
    have ht := heap_below (World.alloc_heap_new (tok0 w) (.cells #[.int .i64 0, .string ⟨#[]⟩, .int .i64 p] 33)) hb1
    rw [World.size_alloc] at ht
    obtain ⟨t0, t1, t2, _⟩ := blk3 ht
    clear hR4 hb1 ht
    unfold resQ
    obtain ⟨n0, n1, n2, g0, g1, g2⟩ := hO2.cells
    go_wp2
    have hF := hO2.fin (.int .i64 0) (.string ⟨#[]⟩) (.int .i64 p)
    obtain ⟨e0, e1, e2, _⟩ := hF.cells
    refine bodyPost_ret (v := .tuple #[.agg #[.int .i64 0, .string ⟨#[]⟩, .int .i64 p], .int .i64 0, .int .i64 41]) (by simp [results, Tryz.results29, go_sem, e0, e1, e2]) rfl ?_
    rw [show oneT s.data.toList p d = .bad 41 from HRES.out]
    exact postO_bad rfl (by first | exact hF.bel | exact ((Below.refl _ w).alloc (Nat.le_refl _) _).alloc (by simp) _)
  · have HRES := hid (show oneT s.data.toList p d = .bad 42 by rw [HONE.out, HQ.out, HQT.out]; rfl)
    clear hto HQT HQ
    go_enter Tryz.func29, Tryz.ntmps29
    go_wp2_with fail
    refine (hR4 _).mono ?_
    rintro e w1 ⟨rfl, hb1⟩
    replace hO2 := hO2.below hb1
    have ht := heap_below (World.alloc_heap_new (tok0 w) (.cells #[.int .i64 0, .string ⟨#[]⟩, .int .i64 p] 33)) hb1
    rw [World.size_alloc] at ht
    obtain ⟨t0, t1, t2, _⟩ := blk3 ht
    clear hR4 hb1 ht
    unfold resQ
    obtain ⟨n0, n1, n2, g0, g1, g2⟩ := hO2.cells
    go_wp2
    have hF := hO2.fin (.int .i64 0) (.string ⟨#[]⟩) (.int .i64 p)
    obtain ⟨e0, e1, e2, _⟩ := hF.cells
    refine bodyPost_ret (v := .tuple #[.agg #[.int .i64 0, .string ⟨#[]⟩, .int .i64 p], .int .i64 0, .int .i64 42]) (by simp [results, Tryz.results29, go_sem, e0, e1, e2]) rfl ?_
    rw [show oneT s.data.toList p d = .bad 42 from HRES.out]
    exact postO_bad rfl (by first | exact hF.bel | exact ((Below.refl _ w).alloc (Nat.le_refl _) _).alloc (by simp) _)

set_option maxRecDepth 100000 in
set_option maxHeartbeats 8000000 in
theorem refOne15_amp (s : ByteArray) (p d : Nat) (w : World) (hs : s.size ≤ 100000) (hp : p < s.size) (hv : validD s.data.toList = true) (hc : s[p]'hp = 38) :
    Calls Tryz.prog 29 #[.string s, .int .i64 p, .int .i64 d] w (PostO (oneT s.data.toList p d) p w) := by
  have hpi : (p : Int) < (s.size : Int) := by omega
  have hp0 : (0 : Int) ≤ (p : Int) := by omega
  have hO2 := tok2_ox w 0 p
  have HONE := hid (show oneT s.data.toList p d = oneC s.data.toList p d 38 by unfold oneT; rw [getD_byte s p hp, hc])
  have hN := fun wx => refNamed15_any s p d wx (by omega) hp
  obtain ⟨r, hr⟩ : ∃ r, namedT s.data.toList p d = r := ⟨_, rfl⟩
  rw [hr] at hN
  have HRES := hid (show oneT s.data.toList p d = r by rw [HONE.out, ← hr]; exact rfl)
  clear hr
  cases r with
  | ok k t q d2 =>
    go_enter Tryz.func29, Tryz.ntmps29
    go_wp2_with fail
    refine (hN _).mono ?_
    rintro e w1 ⟨rfl, hb1⟩
    replace hO2 := hO2.below hb1
    clear hN hb1
    obtain ⟨n0, n1, n2, g0, g1, g2⟩ := hO2.cells
    go_wp2
    have hF := hO2.fin (.int .i64 k) (.string ⟨t.toArray⟩) (.int .i64 p)
    obtain ⟨e0, e1, e2, _⟩ := hF.cells
    refine bodyPost_ret (v := .tuple #[.agg #[.int .i64 k, .string ⟨t.toArray⟩, .int .i64 p], .int .i64 q, .int .i64 0]) (by simp [results, Tryz.results29, go_sem, e0, e1, e2]) rfl ?_
    rw [show oneT s.data.toList p d = .ok k t q d2 from HRES.out]
    exact postO_ok rfl (by first | exact hF.bel | exact ((Below.refl _ w).alloc (Nat.le_refl _) _).alloc (by simp) _)
  | bad er =>
    go_enter Tryz.func29, Tryz.ntmps29
    go_wp2_with fail
    refine (hN _).mono ?_
    rintro e w1 ⟨⟨x, z, y, rfl⟩, hb1⟩
    replace hO2 := hO2.below hb1
    clear hN hb1
    obtain ⟨n0, n1, n2, g0, g1, g2⟩ := hO2.cells
    go_wp2
    have hF := hO2.fin (.int .i64 x) (.string y) (.int .i64 z)
    obtain ⟨e0, e1, e2, _⟩ := hF.cells
    refine bodyPost_ret (v := .tuple #[.agg #[.int .i64 x, .string y, .int .i64 z], .int .i64 0, .int .i64 er]) (by simp [results, Tryz.results29, go_sem, e0, e1, e2]) rfl ?_
    rw [show oneT s.data.toList p d = .bad er from HRES.out]
    exact postO_bad rfl (by first | exact hF.bel | exact ((Below.refl _ w).alloc (Nat.le_refl _) _).alloc (by simp) _)

set_option maxRecDepth 100000 in
set_option maxHeartbeats 8000000 in
theorem refOne15_ast (s : ByteArray) (p d : Nat) (w : World) (hs : s.size ≤ 100000) (hp : p < s.size) (hv : validD s.data.toList = true) (hc : s[p]'hp = 42) :
    Calls Tryz.prog 29 #[.string s, .int .i64 p, .int .i64 d] w (PostO (oneT s.data.toList p d) p w) := by
  have hpi : (p : Int) < (s.size : Int) := by omega
  have hp0 : (0 : Int) ≤ (p : Int) := by omega
  have hO2 := tok2_ox w 0 p
  have HONE := hid (show oneT s.data.toList p d = oneC s.data.toList p d 42 by unfold oneT; rw [getD_byte s p hp, hc])
  have hN := fun wx => refNamed15_any s p d wx (by omega) hp
  obtain ⟨r, hr⟩ : ∃ r, namedT s.data.toList p d = r := ⟨_, rfl⟩
  rw [hr] at hN
  have HRES := hid (show oneT s.data.toList p d = r by rw [HONE.out, ← hr]; exact rfl)
  clear hr
  cases r with
  | ok k t q d2 =>
    go_enter Tryz.func29, Tryz.ntmps29
    go_wp2_with fail
    refine (hN _).mono ?_
    rintro e w1 ⟨rfl, hb1⟩
    replace hO2 := hO2.below hb1
    clear hN hb1
    obtain ⟨n0, n1, n2, g0, g1, g2⟩ := hO2.cells
    go_wp2
    have hF := hO2.fin (.int .i64 k) (.string ⟨t.toArray⟩) (.int .i64 p)
    obtain ⟨e0, e1, e2, _⟩ := hF.cells
    refine bodyPost_ret (v := .tuple #[.agg #[.int .i64 k, .string ⟨t.toArray⟩, .int .i64 p], .int .i64 q, .int .i64 0]) (by simp [results, Tryz.results29, go_sem, e0, e1, e2]) rfl ?_
    rw [show oneT s.data.toList p d = .ok k t q d2 from HRES.out]
    exact postO_ok rfl (by first | exact hF.bel | exact ((Below.refl _ w).alloc (Nat.le_refl _) _).alloc (by simp) _)
  | bad er =>
    go_enter Tryz.func29, Tryz.ntmps29
    go_wp2_with fail
    refine (hN _).mono ?_
    rintro e w1 ⟨⟨x, z, y, rfl⟩, hb1⟩
    replace hO2 := hO2.below hb1
    clear hN hb1
    obtain ⟨n0, n1, n2, g0, g1, g2⟩ := hO2.cells
    go_wp2
    have hF := hO2.fin (.int .i64 x) (.string y) (.int .i64 z)
    obtain ⟨e0, e1, e2, _⟩ := hF.cells
    refine bodyPost_ret (v := .tuple #[.agg #[.int .i64 x, .string y, .int .i64 z], .int .i64 0, .int .i64 er]) (by simp [results, Tryz.results29, go_sem, e0, e1, e2]) rfl ?_
    rw [show oneT s.data.toList p d = .bad er from HRES.out]
    exact postO_bad rfl (by first | exact hF.bel | exact ((Below.refl _ w).alloc (Nat.le_refl _) _).alloc (by simp) _)

set_option maxRecDepth 100000 in
set_option maxHeartbeats 8000000 in
theorem refOne15_dash (s : ByteArray) (p d : Nat) (w : World) (hs : s.size ≤ 100000) (hp : p < s.size) (hv : validD s.data.toList = true) (hc : s[p]'hp = 45) :
    Calls Tryz.prog 29 #[.string s, .int .i64 p, .int .i64 d] w (PostO (oneT s.data.toList p d) p w) := by
  have hpi : (p : Int) < (s.size : Int) := by omega
  have hp0 : (0 : Int) ≤ (p : Int) := by omega
  have hO2 := tok2_ox w 0 p
  have HONE := hid (show oneT s.data.toList p d = oneC s.data.toList p d 45 by unfold oneT; rw [getD_byte s p hp, hc])
  have hB := fun wx => blank_at s p wx (by omega) (by omega)
  obtain ⟨b, hb⟩ : ∃ b, blankB s.data.toList (p + 1) = b := ⟨_, rfl⟩
  rw [hb] at hB
  have HB := hid hb
  clear hb
  cases b with
  | true =>
    have hO5 := tok2_ox w 5 p
    by_cases hd : 0 < d
    · have hdi : (0 : Int) < (d : Int) := by omega
      have HRES := hid (show oneT s.data.toList p d = .bad 90 by rw [HONE.out]; show dashT s.data.toList p d = _; unfold dashT; rw [HB.out, if_pos rfl, if_pos hd])
      go_enter Tryz.func29, Tryz.ntmps29
      go_wp2_with fail
      refine (hB _).mono ?_
      rintro e w1 ⟨rfl, hw⟩
      subst w1
      clear hB
      go_wp2
      have hF := hO5.fin (.int .i64 5) (.string ⟨#[]⟩) (.int .i64 p)
      obtain ⟨e0, e1, e2, _⟩ := hF.cells
      refine bodyPost_ret (v := .tuple #[.agg #[.int .i64 5, .string ⟨#[]⟩, .int .i64 p], .int .i64 0, .int .i64 90]) (by simp [results, Tryz.results29, go_sem, e0, e1, e2]) rfl ?_
      rw [show oneT s.data.toList p d = .bad 90 from HRES.out]
      exact postO_bad rfl (by first | exact hF.bel | exact ((Below.refl _ w).alloc (Nat.le_refl _) _).alloc (by simp) _)
    · have hdi : ¬ (0 : Int) < (d : Int) := by omega
      have HRES := hid (show oneT s.data.toList p d = .ok 5 [] (p + 1) d by rw [HONE.out]; show dashT s.data.toList p d = _; unfold dashT; rw [HB.out, if_pos rfl, if_neg hd])
      go_enter Tryz.func29, Tryz.ntmps29
      go_wp2_with fail
      refine (hB _).mono ?_
      rintro e w1 ⟨rfl, hw⟩
      subst w1
      clear hB
      go_wp2
      have hF := hO5.fin (.int .i64 5) (.string ⟨#[]⟩) (.int .i64 p)
      obtain ⟨e0, e1, e2, _⟩ := hF.cells
      refine bodyPost_ret (v := .tuple #[.agg #[.int .i64 5, .string ⟨#[]⟩, .int .i64 p], .int .i64 ((p : Int) + 1), .int .i64 0]) (by simp [results, Tryz.results29, go_sem, e0, e1, e2]) rfl ?_
      rw [show oneT s.data.toList p d = .ok 5 [] (p + 1) d from HRES.out]
      exact postO_ok rfl (by first | exact hF.bel | exact ((Below.refl _ w).alloc (Nat.le_refl _) _).alloc (by simp) _)
  | false =>
    have hN := fun wx => refPlain15_any s p d wx (by omega) (by omega)
    obtain ⟨r, hr⟩ : ∃ r, plainT s.data.toList p d = r := ⟨_, rfl⟩
    rw [hr] at hN
    have HRES := hid (show oneT s.data.toList p d = r by rw [HONE.out, ← hr]; exact (by show dashT s.data.toList p d = _; unfold dashT; rw [HB.out]; rfl))
    clear hr
    cases r with
    | ok k t q d2 =>
      go_enter Tryz.func29, Tryz.ntmps29
      go_wp2_with fail
      refine (hB _).mono ?_
      rintro e w1 ⟨rfl, hw⟩
      subst w1
      go_wp2_with fail
      refine (hN _).mono ?_
      rintro e w1 ⟨rfl, hb1⟩
      replace hO2 := hO2.below hb1
      clear hN hb1
      obtain ⟨n0, n1, n2, g0, g1, g2⟩ := hO2.cells
      go_wp2
      have hF := hO2.fin (.int .i64 k) (.string ⟨t.toArray⟩) (.int .i64 p)
      obtain ⟨e0, e1, e2, _⟩ := hF.cells
      refine bodyPost_ret (v := .tuple #[.agg #[.int .i64 k, .string ⟨t.toArray⟩, .int .i64 p], .int .i64 q, .int .i64 0]) (by simp [results, Tryz.results29, go_sem, e0, e1, e2]) rfl ?_
      rw [show oneT s.data.toList p d = .ok k t q d2 from HRES.out]
      exact postO_ok rfl (by first | exact hF.bel | exact ((Below.refl _ w).alloc (Nat.le_refl _) _).alloc (by simp) _)
    | bad er =>
      go_enter Tryz.func29, Tryz.ntmps29
      go_wp2_with fail
      refine (hB _).mono ?_
      rintro e w1 ⟨rfl, hw⟩
      subst w1
      go_wp2_with fail
      refine (hN _).mono ?_
      rintro e w1 ⟨⟨x, z, y, rfl⟩, hb1⟩
      replace hO2 := hO2.below hb1
      clear hN hb1
      obtain ⟨n0, n1, n2, g0, g1, g2⟩ := hO2.cells
      go_wp2
      have hF := hO2.fin (.int .i64 x) (.string y) (.int .i64 z)
      obtain ⟨e0, e1, e2, _⟩ := hF.cells
      refine bodyPost_ret (v := .tuple #[.agg #[.int .i64 x, .string y, .int .i64 z], .int .i64 0, .int .i64 er]) (by simp [results, Tryz.results29, go_sem, e0, e1, e2]) rfl ?_
      rw [show oneT s.data.toList p d = .bad er from HRES.out]
      exact postO_bad rfl (by first | exact hF.bel | exact ((Below.refl _ w).alloc (Nat.le_refl _) _).alloc (by simp) _)

set_option maxRecDepth 100000 in
set_option maxHeartbeats 8000000 in
theorem refOne15_colon (s : ByteArray) (p d : Nat) (w : World) (hs : s.size ≤ 100000) (hp : p < s.size) (hv : validD s.data.toList = true) (hc : s[p]'hp = 58) :
    Calls Tryz.prog 29 #[.string s, .int .i64 p, .int .i64 d] w (PostO (oneT s.data.toList p d) p w) := by
  have hpi : (p : Int) < (s.size : Int) := by omega
  have hp0 : (0 : Int) ≤ (p : Int) := by omega
  have hO2 := tok2_ox w 0 p
  have HONE := hid (show oneT s.data.toList p d = oneC s.data.toList p d 58 by unfold oneT; rw [getD_byte s p hp, hc])
  have hB := fun wx => closed_at s p d wx (by omega) (by omega)
  obtain ⟨b, hb⟩ : ∃ b, closedB s.data.toList (p + 1) d = b := ⟨_, rfl⟩
  rw [hb] at hB
  have HB := hid hb
  clear hb
  cases b with
  | true =>
    have hO5 := tok2_ox w 6 p
    have HRES := hid (show oneT s.data.toList p d = .ok 6 [] (p + 1) d by rw [HONE.out]; show colonT s.data.toList p d = _; unfold colonT; rw [HB.out, if_pos rfl])
    go_enter Tryz.func29, Tryz.ntmps29
    go_wp2_with fail
    refine (hB _).mono ?_
    rintro e w1 ⟨rfl, hw⟩
    subst w1
    clear hB
    go_wp2
    have hF := hO5.fin (.int .i64 6) (.string ⟨#[]⟩) (.int .i64 p)
    obtain ⟨e0, e1, e2, _⟩ := hF.cells
    refine bodyPost_ret (v := .tuple #[.agg #[.int .i64 6, .string ⟨#[]⟩, .int .i64 p], .int .i64 ((p : Int) + 1), .int .i64 0]) (by simp [results, Tryz.results29, go_sem, e0, e1, e2]) rfl ?_
    rw [show oneT s.data.toList p d = .ok 6 [] (p + 1) d from HRES.out]
    exact postO_ok rfl (by first | exact hF.bel | exact ((Below.refl _ w).alloc (Nat.le_refl _) _).alloc (by simp) _)
  | false =>
    have hN := fun wx => refPlain15_any s p d wx (by omega) (by omega)
    obtain ⟨r, hr⟩ : ∃ r, plainT s.data.toList p d = r := ⟨_, rfl⟩
    rw [hr] at hN
    have HRES := hid (show oneT s.data.toList p d = r by rw [HONE.out, ← hr]; exact (by show colonT s.data.toList p d = _; unfold colonT; rw [HB.out]; rfl))
    clear hr
    cases r with
    | ok k t q d2 =>
      go_enter Tryz.func29, Tryz.ntmps29
      go_wp2_with fail
      refine (hB _).mono ?_
      rintro e w1 ⟨rfl, hw⟩
      subst w1
      go_wp2_with fail
      refine (hN _).mono ?_
      rintro e w1 ⟨rfl, hb1⟩
      replace hO2 := hO2.below hb1
      clear hN hb1
      obtain ⟨n0, n1, n2, g0, g1, g2⟩ := hO2.cells
      go_wp2
      have hF := hO2.fin (.int .i64 k) (.string ⟨t.toArray⟩) (.int .i64 p)
      obtain ⟨e0, e1, e2, _⟩ := hF.cells
      refine bodyPost_ret (v := .tuple #[.agg #[.int .i64 k, .string ⟨t.toArray⟩, .int .i64 p], .int .i64 q, .int .i64 0]) (by simp [results, Tryz.results29, go_sem, e0, e1, e2]) rfl ?_
      rw [show oneT s.data.toList p d = .ok k t q d2 from HRES.out]
      exact postO_ok rfl (by first | exact hF.bel | exact ((Below.refl _ w).alloc (Nat.le_refl _) _).alloc (by simp) _)
    | bad er =>
      go_enter Tryz.func29, Tryz.ntmps29
      go_wp2_with fail
      refine (hB _).mono ?_
      rintro e w1 ⟨rfl, hw⟩
      subst w1
      go_wp2_with fail
      refine (hN _).mono ?_
      rintro e w1 ⟨⟨x, z, y, rfl⟩, hb1⟩
      replace hO2 := hO2.below hb1
      clear hN hb1
      obtain ⟨n0, n1, n2, g0, g1, g2⟩ := hO2.cells
      go_wp2
      have hF := hO2.fin (.int .i64 x) (.string y) (.int .i64 z)
      obtain ⟨e0, e1, e2, _⟩ := hF.cells
      refine bodyPost_ret (v := .tuple #[.agg #[.int .i64 x, .string y, .int .i64 z], .int .i64 0, .int .i64 er]) (by simp [results, Tryz.results29, go_sem, e0, e1, e2]) rfl ?_
      rw [show oneT s.data.toList p d = .bad er from HRES.out]
      exact postO_bad rfl (by first | exact hF.bel | exact ((Below.refl _ w).alloc (Nat.le_refl _) _).alloc (by simp) _)

set_option maxRecDepth 100000 in
set_option maxHeartbeats 8000000 in
theorem refOne15_sqo (s : ByteArray) (p d : Nat) (w : World) (hs : s.size ≤ 100000) (hp : p < s.size) (hv : validD s.data.toList = true) (hc : s[p]'hp = 91) :
    Calls Tryz.prog 29 #[.string s, .int .i64 p, .int .i64 d] w (PostO (oneT s.data.toList p d) p w) := by
  have hpi : (p : Int) < (s.size : Int) := by omega
  have hp0 : (0 : Int) ≤ (p : Int) := by omega
  have hO2 := tok2_ox w 0 p
  have HONE := hid (show oneT s.data.toList p d = oneC s.data.toList p d 91 by unfold oneT; rw [getD_byte s p hp, hc])
  have hO5 := tok2_ox w 8 p
  have HRES := hid (show oneT s.data.toList p d = .ok 8 [] (p + 1) (d + 1) by rw [HONE.out]; rfl)
  go_enter Tryz.func29, Tryz.ntmps29
  go_wp2
  have hF := hO5.fin (.int .i64 8) (.string ⟨#[]⟩) (.int .i64 p)
  obtain ⟨e0, e1, e2, _⟩ := hF.cells
  refine bodyPost_ret (v := .tuple #[.agg #[.int .i64 8, .string ⟨#[]⟩, .int .i64 p], .int .i64 ((p : Int) + 1), .int .i64 0]) (by simp [results, Tryz.results29, go_sem, e0, e1, e2]) rfl ?_
  rw [show oneT s.data.toList p d = .ok 8 [] (p + 1) (d + 1) from HRES.out]
  exact postO_ok rfl (by first | exact hF.bel | exact ((Below.refl _ w).alloc (Nat.le_refl _) _).alloc (by simp) _)

set_option maxRecDepth 100000 in
set_option maxHeartbeats 8000000 in
theorem refOne15_cuo (s : ByteArray) (p d : Nat) (w : World) (hs : s.size ≤ 100000) (hp : p < s.size) (hv : validD s.data.toList = true) (hc : s[p]'hp = 123) :
    Calls Tryz.prog 29 #[.string s, .int .i64 p, .int .i64 d] w (PostO (oneT s.data.toList p d) p w) := by
  have hpi : (p : Int) < (s.size : Int) := by omega
  have hp0 : (0 : Int) ≤ (p : Int) := by omega
  have hO2 := tok2_ox w 0 p
  have HONE := hid (show oneT s.data.toList p d = oneC s.data.toList p d 123 by unfold oneT; rw [getD_byte s p hp, hc])
  have hO5 := tok2_ox w 10 p
  have HRES := hid (show oneT s.data.toList p d = .ok 10 [] (p + 1) (d + 1) by rw [HONE.out]; rfl)
  go_enter Tryz.func29, Tryz.ntmps29
  go_wp2
  have hF := hO5.fin (.int .i64 10) (.string ⟨#[]⟩) (.int .i64 p)
  obtain ⟨e0, e1, e2, _⟩ := hF.cells
  refine bodyPost_ret (v := .tuple #[.agg #[.int .i64 10, .string ⟨#[]⟩, .int .i64 p], .int .i64 ((p : Int) + 1), .int .i64 0]) (by simp [results, Tryz.results29, go_sem, e0, e1, e2]) rfl ?_
  rw [show oneT s.data.toList p d = .ok 10 [] (p + 1) (d + 1) from HRES.out]
  exact postO_ok rfl (by first | exact hF.bel | exact ((Below.refl _ w).alloc (Nat.le_refl _) _).alloc (by simp) _)

set_option maxRecDepth 100000 in
set_option maxHeartbeats 8000000 in
theorem refOne15_com (s : ByteArray) (p d : Nat) (w : World) (hs : s.size ≤ 100000) (hp : p < s.size) (hv : validD s.data.toList = true) (hc : s[p]'hp = 44) :
    Calls Tryz.prog 29 #[.string s, .int .i64 p, .int .i64 d] w (PostO (oneT s.data.toList p d) p w) := by
  have hpi : (p : Int) < (s.size : Int) := by omega
  have hp0 : (0 : Int) ≤ (p : Int) := by omega
  have hO2 := tok2_ox w 0 p
  have HONE := hid (show oneT s.data.toList p d = oneC s.data.toList p d 44 by unfold oneT; rw [getD_byte s p hp, hc])
  have hO5 := tok2_ox w 7 p
  by_cases hd : d = 0
  · have HRES := hid (show oneT s.data.toList p d = .bad 90 by rw [HONE.out]; show insideT 44 p d = _; unfold insideT; rw [if_pos hd])
    have hdi : ((d : Int) == 0) = true := by rw [beq_iff_eq]; omega
    clear hd
    go_enter Tryz.func29, Tryz.ntmps29
    go_wp2
    have hF := hO2.fin (.int .i64 0) (.string ⟨#[]⟩) (.int .i64 p)
    obtain ⟨e0, e1, e2, _⟩ := hF.cells
    refine bodyPost_ret (v := .tuple #[.agg #[.int .i64 0, .string ⟨#[]⟩, .int .i64 p], .int .i64 0, .int .i64 90]) (by simp [results, Tryz.results29, go_sem, e0, e1, e2]) rfl ?_
    rw [show oneT s.data.toList p d = .bad 90 from HRES.out]
    exact postO_bad rfl (by first | exact hF.bel | exact ((Below.refl _ w).alloc (Nat.le_refl _) _).alloc (by simp) _)
  · have HRES := hid (show oneT s.data.toList p d = .ok 7 [] (p + 1) d by rw [HONE.out]; show insideT 44 p d = _; unfold insideT; rw [if_neg hd]; rfl)
    have hdi : ((d : Int) == 0) = false := by rw [beq_eq_false_iff_ne]; omega
    clear hd
    go_enter Tryz.func29, Tryz.ntmps29
    go_wp2
    have hF := hO5.fin (.int .i64 7) (.string ⟨#[]⟩) (.int .i64 p)
    obtain ⟨e0, e1, e2, _⟩ := hF.cells
    refine bodyPost_ret (v := .tuple #[.agg #[.int .i64 7, .string ⟨#[]⟩, .int .i64 p], .int .i64 ((p : Int) + 1), .int .i64 0]) (by simp [results, Tryz.results29, go_sem, e0, e1, e2]) rfl ?_
    rw [show oneT s.data.toList p d = .ok 7 [] (p + 1) d from HRES.out]
    exact postO_ok rfl (by first | exact hF.bel | exact ((Below.refl _ w).alloc (Nat.le_refl _) _).alloc (by simp) _)

set_option maxRecDepth 100000 in
set_option maxHeartbeats 8000000 in
theorem refOne15_sqc (s : ByteArray) (p d : Nat) (w : World) (hs : s.size ≤ 100000) (hp : p < s.size) (hv : validD s.data.toList = true) (hc : s[p]'hp = 93) :
    Calls Tryz.prog 29 #[.string s, .int .i64 p, .int .i64 d] w (PostO (oneT s.data.toList p d) p w) := by
  have hpi : (p : Int) < (s.size : Int) := by omega
  have hp0 : (0 : Int) ≤ (p : Int) := by omega
  have hO2 := tok2_ox w 0 p
  have HONE := hid (show oneT s.data.toList p d = oneC s.data.toList p d 93 by unfold oneT; rw [getD_byte s p hp, hc])
  have hO5 := tok2_ox w 9 p
  by_cases hd : d = 0
  · have HRES := hid (show oneT s.data.toList p d = .bad 90 by rw [HONE.out]; show insideT 93 p d = _; unfold insideT; rw [if_pos hd])
    have hdi : ((d : Int) == 0) = true := by rw [beq_iff_eq]; omega
    clear hd
    go_enter Tryz.func29, Tryz.ntmps29
    go_wp2
    have hF := hO2.fin (.int .i64 0) (.string ⟨#[]⟩) (.int .i64 p)
    obtain ⟨e0, e1, e2, _⟩ := hF.cells
    refine bodyPost_ret (v := .tuple #[.agg #[.int .i64 0, .string ⟨#[]⟩, .int .i64 p], .int .i64 0, .int .i64 90]) (by simp [results, Tryz.results29, go_sem, e0, e1, e2]) rfl ?_
    rw [show oneT s.data.toList p d = .bad 90 from HRES.out]
    exact postO_bad rfl (by first | exact hF.bel | exact ((Below.refl _ w).alloc (Nat.le_refl _) _).alloc (by simp) _)
  · have HRES := hid (show oneT s.data.toList p d = .ok 9 [] (p + 1) (d - 1) by rw [HONE.out]; show insideT 93 p d = _; unfold insideT; rw [if_neg hd]; rfl)
    have hdi : ((d : Int) == 0) = false := by rw [beq_eq_false_iff_ne]; omega
    clear hd
    go_enter Tryz.func29, Tryz.ntmps29
    go_wp2
    have hF := hO5.fin (.int .i64 9) (.string ⟨#[]⟩) (.int .i64 p)
    obtain ⟨e0, e1, e2, _⟩ := hF.cells
    refine bodyPost_ret (v := .tuple #[.agg #[.int .i64 9, .string ⟨#[]⟩, .int .i64 p], .int .i64 ((p : Int) + 1), .int .i64 0]) (by simp [results, Tryz.results29, go_sem, e0, e1, e2]) rfl ?_
    rw [show oneT s.data.toList p d = .ok 9 [] (p + 1) (d - 1) from HRES.out]
    exact postO_ok rfl (by first | exact hF.bel | exact ((Below.refl _ w).alloc (Nat.le_refl _) _).alloc (by simp) _)

set_option maxRecDepth 100000 in
set_option maxHeartbeats 8000000 in
theorem refOne15_cuc (s : ByteArray) (p d : Nat) (w : World) (hs : s.size ≤ 100000) (hp : p < s.size) (hv : validD s.data.toList = true) (hc : s[p]'hp = 125) :
    Calls Tryz.prog 29 #[.string s, .int .i64 p, .int .i64 d] w (PostO (oneT s.data.toList p d) p w) := by
  have hpi : (p : Int) < (s.size : Int) := by omega
  have hp0 : (0 : Int) ≤ (p : Int) := by omega
  have hO2 := tok2_ox w 0 p
  have HONE := hid (show oneT s.data.toList p d = oneC s.data.toList p d 125 by unfold oneT; rw [getD_byte s p hp, hc])
  have hO5 := tok2_ox w 11 p
  by_cases hd : d = 0
  · have HRES := hid (show oneT s.data.toList p d = .bad 90 by rw [HONE.out]; show insideT 125 p d = _; unfold insideT; rw [if_pos hd])
    have hdi : ((d : Int) == 0) = true := by rw [beq_iff_eq]; omega
    clear hd
    go_enter Tryz.func29, Tryz.ntmps29
    go_wp2
    have hF := hO2.fin (.int .i64 0) (.string ⟨#[]⟩) (.int .i64 p)
    obtain ⟨e0, e1, e2, _⟩ := hF.cells
    refine bodyPost_ret (v := .tuple #[.agg #[.int .i64 0, .string ⟨#[]⟩, .int .i64 p], .int .i64 0, .int .i64 90]) (by simp [results, Tryz.results29, go_sem, e0, e1, e2]) rfl ?_
    rw [show oneT s.data.toList p d = .bad 90 from HRES.out]
    exact postO_bad rfl (by first | exact hF.bel | exact ((Below.refl _ w).alloc (Nat.le_refl _) _).alloc (by simp) _)
  · have HRES := hid (show oneT s.data.toList p d = .ok 11 [] (p + 1) (d - 1) by rw [HONE.out]; show insideT 125 p d = _; unfold insideT; rw [if_neg hd]; rfl)
    have hdi : ((d : Int) == 0) = false := by rw [beq_eq_false_iff_ne]; omega
    clear hd
    go_enter Tryz.func29, Tryz.ntmps29
    go_wp2
    have hF := hO5.fin (.int .i64 11) (.string ⟨#[]⟩) (.int .i64 p)
    obtain ⟨e0, e1, e2, _⟩ := hF.cells
    refine bodyPost_ret (v := .tuple #[.agg #[.int .i64 11, .string ⟨#[]⟩, .int .i64 p], .int .i64 ((p : Int) + 1), .int .i64 0]) (by simp [results, Tryz.results29, go_sem, e0, e1, e2]) rfl ?_
    rw [show oneT s.data.toList p d = .ok 11 [] (p + 1) (d - 1) from HRES.out]
    exact postO_ok rfl (by first | exact hF.bel | exact ((Below.refl _ w).alloc (Nat.le_refl _) _).alloc (by simp) _)

set_option maxRecDepth 100000 in
set_option maxHeartbeats 8000000 in
theorem refOne15_else (s : ByteArray) (p d : Nat) (w : World) (hs : s.size ≤ 100000) (hp : p < s.size) (hv : validD s.data.toList = true) (c : UInt8) (hc : s[p]'hp = c) (hn : c ∉ ([34, 39, 38, 42, 45, 58, 91, 123, 44, 93, 125] : List UInt8)) :
    Calls Tryz.prog 29 #[.string s, .int .i64 p, .int .i64 d] w (PostO (oneT s.data.toList p d) p w) := by
  have hpi : (p : Int) < (s.size : Int) := by omega
  have hp0 : (0 : Int) ≤ (p : Int) := by omega
  have hO2 := tok2_ox w 0 p
  have HONE := hid (show oneT s.data.toList p d = oneC s.data.toList p d c by unfold oneT; rw [getD_byte s p hp, hc])
  simp only [List.mem_cons, List.not_mem_nil, or_false, not_or] at hn
  obtain ⟨c34, c39, c38, c42, c45, c58, c91, c123, c44, c93, c125⟩ := hn
  have HE := hid (show oneC s.data.toList p d c = plainT s.data.toList p d by unfold oneC; rw [if_neg (by rintro (h | h); exact c34 h; exact c39 h), if_neg (by rintro (h | h); exact c38 h; exact c42 h), if_neg c45, if_neg c58, if_neg (by rintro (h | h); exact c91 h; exact c123 h), if_neg (by rintro (h | h | h); exact c44 h; exact c93 h; exact c125 h)])
  have d34 : ((c.toNat : Int) == 34) = false := by rw [beq_eq_false_iff_ne]; intro h; exact c34 (UInt8.toNat_inj.1 (by show c.toNat = 34; omega))
  have d39 : ((c.toNat : Int) == 39) = false := by rw [beq_eq_false_iff_ne]; intro h; exact c39 (UInt8.toNat_inj.1 (by show c.toNat = 39; omega))
  have d38 : ((c.toNat : Int) == 38) = false := by rw [beq_eq_false_iff_ne]; intro h; exact c38 (UInt8.toNat_inj.1 (by show c.toNat = 38; omega))
  have d42 : ((c.toNat : Int) == 42) = false := by rw [beq_eq_false_iff_ne]; intro h; exact c42 (UInt8.toNat_inj.1 (by show c.toNat = 42; omega))
  have d45 : ((c.toNat : Int) == 45) = false := by rw [beq_eq_false_iff_ne]; intro h; exact c45 (UInt8.toNat_inj.1 (by show c.toNat = 45; omega))
  have d58 : ((c.toNat : Int) == 58) = false := by rw [beq_eq_false_iff_ne]; intro h; exact c58 (UInt8.toNat_inj.1 (by show c.toNat = 58; omega))
  have d91 : ((c.toNat : Int) == 91) = false := by rw [beq_eq_false_iff_ne]; intro h; exact c91 (UInt8.toNat_inj.1 (by show c.toNat = 91; omega))
  have d123 : ((c.toNat : Int) == 123) = false := by rw [beq_eq_false_iff_ne]; intro h; exact c123 (UInt8.toNat_inj.1 (by show c.toNat = 123; omega))
  have d44 : ((c.toNat : Int) == 44) = false := by rw [beq_eq_false_iff_ne]; intro h; exact c44 (UInt8.toNat_inj.1 (by show c.toNat = 44; omega))
  have d93 : ((c.toNat : Int) == 93) = false := by rw [beq_eq_false_iff_ne]; intro h; exact c93 (UInt8.toNat_inj.1 (by show c.toNat = 93; omega))
  have d125 : ((c.toNat : Int) == 125) = false := by rw [beq_eq_false_iff_ne]; intro h; exact c125 (UInt8.toNat_inj.1 (by show c.toNat = 125; omega))
  clear c34 c39 c38 c42 c45 c58 c91 c123 c44 c93 c125
  have hN := fun wx => refPlain15_any s p d wx (by omega) (by omega)
  obtain ⟨r, hr⟩ : ∃ r, plainT s.data.toList p d = r := ⟨_, rfl⟩
  rw [hr] at hN
  have HRES := hid (show oneT s.data.toList p d = r by rw [HONE.out, ← hr]; exact HE.out)
  clear hr
  cases r with
  | ok k t q d2 =>
    go_enter Tryz.func29, Tryz.ntmps29
    go_wp2_with fail
    refine (hN _).mono ?_
    rintro e w1 ⟨rfl, hb1⟩
    replace hO2 := hO2.below hb1
    clear hN hb1
    obtain ⟨n0, n1, n2, g0, g1, g2⟩ := hO2.cells
    go_wp2
    have hF := hO2.fin (.int .i64 k) (.string ⟨t.toArray⟩) (.int .i64 p)
    obtain ⟨e0, e1, e2, _⟩ := hF.cells
    refine bodyPost_ret (v := .tuple #[.agg #[.int .i64 k, .string ⟨t.toArray⟩, .int .i64 p], .int .i64 q, .int .i64 0]) (by simp [results, Tryz.results29, go_sem, e0, e1, e2]) rfl ?_
    rw [show oneT s.data.toList p d = .ok k t q d2 from HRES.out]
    exact postO_ok rfl (by first | exact hF.bel | exact ((Below.refl _ w).alloc (Nat.le_refl _) _).alloc (by simp) _)
  | bad er =>
    go_enter Tryz.func29, Tryz.ntmps29
    go_wp2_with fail
    refine (hN _).mono ?_
    rintro e w1 ⟨⟨x, z, y, rfl⟩, hb1⟩
    replace hO2 := hO2.below hb1
    clear hN hb1
    obtain ⟨n0, n1, n2, g0, g1, g2⟩ := hO2.cells
    go_wp2
    have hF := hO2.fin (.int .i64 x) (.string y) (.int .i64 z)
    obtain ⟨e0, e1, e2, _⟩ := hF.cells
    refine bodyPost_ret (v := .tuple #[.agg #[.int .i64 x, .string y, .int .i64 z], .int .i64 0, .int .i64 er]) (by simp [results, Tryz.results29, go_sem, e0, e1, e2]) rfl ?_
    rw [show oneT s.data.toList p d = .bad er from HRES.out]
    exact postO_bad rfl (by first | exact hF.bel | exact ((Below.refl _ w).alloc (Nat.le_refl _) _).alloc (by simp) _)

theorem refOne15_any (s : ByteArray) (p d : Nat) (w : World) (hs : s.size ≤ 100000) (hp : p < s.size) (hv : validD s.data.toList = true) :
    Calls Tryz.prog 29 #[.string s, .int .i64 p, .int .i64 d] w (PostO (oneT s.data.toList p d) p w) := by
  by_cases h : (s[p]'hp) ∈ ([34, 39, 38, 42, 45, 58, 91, 123, 44, 93, 125] : List UInt8)
  · simp only [List.mem_cons, List.not_mem_nil, or_false] at h
    rcases h with h | h | h | h | h | h | h | h | h | h | h
    · exact refOne15_dq s p d w hs hp hv h
    · exact refOne15_sq s p d w hs hp hv h
    · exact refOne15_amp s p d w hs hp hv h
    · exact refOne15_ast s p d w hs hp hv h
    · exact refOne15_dash s p d w hs hp hv h
    · exact refOne15_colon s p d w hs hp hv h
    · exact refOne15_sqo s p d w hs hp hv h
    · exact refOne15_cuo s p d w hs hp hv h
    · exact refOne15_com s p d w hs hp hv h
    · exact refOne15_sqc s p d w hs hp hv h
    · exact refOne15_cuc s p d w hs hp hv h
  · exact refOne15_else s p d w hs hp hv _ rfl h
end Go.Proofs.YtghelkkndkbejaaGreatDoor

