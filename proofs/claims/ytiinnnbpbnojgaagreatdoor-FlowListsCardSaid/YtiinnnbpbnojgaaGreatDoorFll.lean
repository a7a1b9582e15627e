/- What is proved: the law FlowLists returns true whatever comes in. -/
import Derived.Test.YtiinnnbpbnojgaaGreatDoorFlb
namespace Go.Proofs.YtiinnnbpbnojgaaGreatDoor
open Go Go.RowKit Go.Lib
set_option linter.unusedSimpArgs false
set_option linter.unusedVariables false

set_option maxRecDepth 100000 in
set_option maxHeartbeats 8000000 in
theorem FlowLists_any (v : Value) (xs : List TkI) (w : World) (hx : TokIn w v xs) (hT : Tabs w) (hE : ErrTy w) :
    Calls Tryz.prog 7 #[v] w fun e w' => e = .returned (.bool true) ∧ Below w.heap.size w w' := by
  have hsh := shown16_any w hT hE
  have hF := fun wx (hb : Below w.heap.size w wx) => Few16_any v xs wx (hx.below hb)
  have hH := fun v ts wx (hb : Below w.heap.size w wx) hx hv hc => Whole_any v ts wx hx hv hc (hT.below hb) (hE.below hb)
  have hfm := fewJ_fm xs
  obtain ⟨ts, hts⟩ : ∃ ts, fewJ xs = ts := ⟨_, rfl⟩
  rw [hts] at hfm
  have HTS := hid hts
  obtain ⟨A0, c0, rfl, _⟩ := id hx
  clear hx hT hE hts
  obtain ⟨⟨t, er⟩, hr⟩ : ∃ r, wholeW (pcs ts) = r := ⟨_, rfl⟩
  have HR := hid hr
  obtain ⟨us, hus⟩ : ∃ us, [TkI.mk 8 [] 0] ++ ts = us := ⟨_, rfl⟩
  obtain ⟨vs, hvs⟩ : ∃ vs, us ++ [TkI.mk 7 [] 0] = vs := ⟨_, rfl⟩
  obtain ⟨ws, hws⟩ : ∃ ws, vs ++ ts = ws := ⟨_, rfl⟩
  obtain ⟨zs, hzs⟩ : ∃ zs, ws ++ [TkI.mk 9 [] 0] = zs := ⟨_, rfl⟩
  have hfm2 : Fm 123 zs := by rw [← hzs, ← hws, ← hvs, ← hus]; exact (((((Fm.one _ (by simp)).app hfm).app (Fm.one _ (by simp))).app hfm).app (Fm.one _ (by simp))).less (by omega)
  obtain ⟨⟨t2, e2⟩, hr2⟩ : ∃ r, wholeW (pcs zs) = r := ⟨_, rfl⟩
  have HR2 := hid hr2
  obtain ⟨L, hL⟩ : ∃ L, ts.length = L := ⟨_, rfl⟩
  have hL60 : L ≤ 60 := by rw [← hL]; exact hfm.1
  have HZ := hid (And.intro hus (And.intro hzs (And.intro hL (And.intro hvs hws))))
  have hlu : us.length = 1 + L := by rw [← hus, List.length_append, hL]; simp
  have hlv : vs.length = L + 2 := by rw [← hvs, List.length_append, hlu]; simp; omega
  have hlw : ws.length = L + 2 + L := by rw [← hws, List.length_append, hlv, hL]
  have hlz : zs.length = L + 2 + L + 1 := by rw [← hzs, List.length_append, hlw]; simp
  have HLN := hid (And.intro hlu (And.intro hlz (And.intro hlv hlw)))
  have hpz : pcs zs = ⟨8, []⟩ :: (pcs ts ++ ⟨7, []⟩ :: (pcs ts ++ [⟨9, []⟩])) := by rw [← hzs, ← hws, ← hvs, ← hus, pcs_app, pcs_app, pcs_app, pcs_app]; simp [pcs]
  have hlaw : er ≠ 0 ∨ (PV (pcs ts) t ∧ er = 0 ∧ ((deepTr t = 24 ∧ t2 = tr0 ∧ e2 = 73) ∨ (deepTr t < 24 ∧ t2 = seqTr [t, t] ∧ e2 = 0))) := by
    by_cases her : er = 0
    · subst her
      refine .inr ⟨(whole_ok hr).1, rfl, ?_⟩
      have hd := (whole_ok hr).2
      have := lists_law hr ⟨8, []⟩ ⟨7, []⟩ ⟨9, []⟩ rfl rfl rfl
      rw [← hpz, hr2] at this
      by_cases h24 : deepTr t < 24
      · rw [if_pos h24] at this; injection this with h2 h3; exact .inr ⟨h24, h2, h3⟩
      · rw [if_neg h24] at this; injection this with h2 h3; exact .inl ⟨by omega, h2, h3⟩
    · exact .inl her
  have hbad : er ≠ 0 → t = tr0 := fun h => by
    have := whole_bad (pcs ts) (by rw [hr]; exact h)
    rw [hr] at this
    exact this
  have HLAW := hid hlaw
  have HBAD := hid hbad
  have HFM := hid (And.intro hfm hfm2)
  clear hr hr2 hus hvs hws hzs hL hlu hlv hlw hlz hpz hlaw hbad hfm hfm2
  go_enter Tryz.func7, Tryz.ntmps7
  go_wp2_with fail
  refine hsh.mono ?_
  rintro e w1 ⟨rfl, hb1⟩
  go_wp2_with fail
  refine (hF w1 hb1).mono ?_
  rintro e w2 ⟨u, rfl, hu, hq2⟩
  rw [show (xs.take 60).map cutJ = ts from HTS.out] at hu
  obtain ⟨A, c, rfl, hc⟩ := hu.rm HZ.out.2.2.1
  have hb2 := hb1.trans (hq2.mono hb1.size)
  have hW := hH _ ts w2 hb2 (HFM.out.1.fx (by omega)) hu.sl (by intro A' n' c' e; injection e with _ e1 e2; omega)
  rw [HR.out] at hW
  have HU := hid (hu.src (Nat.le_refl _))
  clear hF hsh hu hb1 hq2
  go_wp2_with fail
  refine hW.mono ?_
  rintro e w3 ⟨tv, rfl, htv, hq3⟩
  obtain ⟨tk, tnm, xk, xn, ys, KA0, kl, kc, TA, tl, tc, rfl⟩ := htv.form
  have hbA : Below w3.heap.size w3 (w3.alloc (.cells #[.int .i64 tk, .string tnm, .int .i64 xk, .int .i64 xn, .string ys, .slice KA0 kl kc, .slice TA tl tc] 30)) := (Below.refl _ w3).alloc (Nat.le_refl _) _
  obtain ⟨w4, hw4⟩ : ∃ w4, w3.alloc (.cells #[.int .i64 tk, .string tnm, .int .i64 xk, .int .i64 xn, .string ys, .slice KA0 kl kc, .slice TA tl tc] 30) = w4 := ⟨_, rfl⟩
  have hs4 : w3.heap.size + 1 = w4.heap.size := by rw [← hw4]; simp
  have hX := World.alloc_heap_new w3 (.cells #[.int .i64 tk, .string tnm, .int .i64 xk, .int .i64 xn, .string ys, .slice KA0 kl kc, .slice TA tl tc] 30)
  rw [hw4] at hX hbA
  have HX := hid hX
  have HT4 := hid (htv.below hbA)
  have hb3 := hb2.trans (hq3.mono hb2.size)
  have HB4 := hid (hb3.trans (hbA.mono hb3.size))
  have HQ4 := hid (hq3.trans (hbA.mono hq3.size))
  clear hW htv hq3 hb3 hX
  have hlit : ∀ k : Int, (w4.alloc (.cells #[.int .i64 k, .string ⟨#[]⟩, .int .i64 0] 39)).heap[w4.heap.size]? = some (.cells #[.int .i64 k, .string ⟨#[]⟩, .int .i64 0] 39) := fun k => World.alloc_heap_new _ _
  have HLIT := hid hlit
  clear hlit
  go_wp2_with (at_builtin; go_must (refine wpList_append_tks rfl _ _ rfl w4.heap.size (w4.heap.size + 1) (.slice none 0 0) (.slice (some ⟨w4.heap.size, 0, none⟩) 1 1) [] [⟨8, [], 0⟩] [⟨8, [], 0⟩] 1 (w4.alloc (.cells #[.int .i64 8, .string ⟨#[]⟩, .int .i64 0] 39)) (by rfl) (by rfl) (World.ownsRow_nil _ _ _ _) (SrcI.lit (HLIT.out 8) (by omega)) (by simp) (by decide) (by decide) rfl rfl ?_))
  rintro va wa hown hba ⟨Aa, ca, rfl, hca⟩
  have hqa : Below w4.heap.size w4 wa := ((Below.refl _ w4).alloc (Nat.le_refl _) _).trans hba
  have HA := hid (And.intro hown hqa)
  have HSa := hid (HU.out.below (HQ4.out.trans (hqa.mono HQ4.out.size)))
  have hsa : w4.heap.size ≤ wa.heap.size := hqa.size
  clear hown hba hqa hca
  go_wp2_with (at_builtin; go_must (refine wpList_append_tks rfl _ _ rfl w4.heap.size w2.heap.size (.slice Aa 1 ca) (.slice A L c) [⟨8, [], 0⟩] ts us (1 + L) wa (by rfl) (by rfl) HA.out.1 HSa.out hsa (by decide) (by rw [HZ.out.2.2.1]; omega) HZ.out.1 HLN.out.1 ?_))
  rintro vb wb hown hba ⟨Ab, cb, rfl, hcb⟩
  have hqb : Below w4.heap.size w4 wb := HA.out.2.trans hba
  have hqb2 : Below wb.heap.size wb (wb.alloc (.cells #[.int .i64 7, .string ⟨#[]⟩, .int .i64 0] 39)) := (Below.refl _ wb).alloc (Nat.le_refl _) _
  have HO2 := hid (hown.below hqb2)
  have HB2 := hid (hqb.trans (hqb2.mono hqb.size))
  have hsb : w4.heap.size ≤ (wb.alloc (.cells #[.int .i64 7, .string ⟨#[]⟩, .int .i64 0] 39)).heap.size := by have := hqb.size; simp; omega
  have HL9 := hid (World.alloc_heap_new wb (.cells #[.int .i64 7, .string ⟨#[]⟩, .int .i64 0] 39))
  clear hown hba hqb hqb2 hcb HSa HA
  go_wp2_with (at_builtin; go_must (refine wpList_append_tks rfl _ _ rfl w4.heap.size (wb.heap.size + 1) (.slice Ab (1 + L) cb) (.slice (some ⟨wb.heap.size, 0, none⟩) 1 1) us [⟨7, [], 0⟩] vs (L + 2) _ (by rfl) (by rfl) HO2.out (SrcI.lit HL9.out (by omega)) hsb (by rw [HLN.out.1]; omega) (by decide) HZ.out.2.2.2.1 HLN.out.2.2.1 ?_))
  rintro vm wm hown hba ⟨Am, cm, rfl, hcm⟩
  have hqa : Below w4.heap.size w4 wm := HB2.out.trans hba
  have HA := hid (And.intro hown hqa)
  have HSa := hid (HU.out.below (HQ4.out.trans (hqa.mono HQ4.out.size)))
  have hsa2 : w4.heap.size ≤ wm.heap.size := hqa.size
  clear hown hba hqa hcm HB2 HO2 HL9 hsb
  go_wp2_with (at_builtin; go_must (refine wpList_append_tks rfl _ _ rfl w4.heap.size w2.heap.size (.slice Am (L + 2) cm) (.slice A L c) vs ts ws (L + 2 + L) wm (by rfl) (by rfl) HA.out.1 HSa.out hsa2 (by rw [HLN.out.2.2.1]; omega) (by rw [HZ.out.2.2.1]; omega) HZ.out.2.2.2.2 HLN.out.2.2.2 ?_))
  rintro vn wn hown hba ⟨An, cn, rfl, hcn⟩
  have hqb : Below w4.heap.size w4 wn := HA.out.2.trans hba
  have hqb2 : Below wn.heap.size wn (wn.alloc (.cells #[.int .i64 9, .string ⟨#[]⟩, .int .i64 0] 39)) := (Below.refl _ wn).alloc (Nat.le_refl _) _
  have HO2 := hid (hown.below hqb2)
  have HB2 := hid (hqb.trans (hqb2.mono hqb.size))
  have hsb : w4.heap.size ≤ (wn.alloc (.cells #[.int .i64 9, .string ⟨#[]⟩, .int .i64 0] 39)).heap.size := by have := hqb.size; simp; omega
  have HL9 := hid (World.alloc_heap_new wn (.cells #[.int .i64 9, .string ⟨#[]⟩, .int .i64 0] 39))
  clear hown hba hqb hqb2 hcn HSa HA
  go_wp2_with (at_builtin; go_must (refine wpList_append_tks rfl _ _ rfl w4.heap.size (wn.heap.size + 1) (.slice An (L + 2 + L) cn) (.slice (some ⟨wn.heap.size, 0, none⟩) 1 1) ws [⟨9, [], 0⟩] zs (L + 2 + L + 1) _ (by rfl) (by rfl) HO2.out (SrcI.lit HL9.out (by omega)) hsb (by rw [HLN.out.2.2.2]; omega) (by decide) HZ.out.2.1 HLN.out.2.1 ?_))
  rintro vc wc hown hba ⟨Ac, cc, rfl, hcc⟩
  have hqc : Below w4.heap.size w4 wc := HB2.out.trans hba
  have hbc := HB4.out.trans (hqc.mono HB4.out.size)
  have hW := hH _ zs wc hbc (HFM.out.2.fx (by omega)) hown.sl (by intro A' n' c' e; injection e with _ e1 e2; omega)
  rw [HR2.out] at hW
  have HC := hid hqc
  clear hown hba hqc hbc hH HB2 HO2 HL9 HLIT hsb hsa hsa2 HU HQ4
  go_wp2_with fail
  refine hW.mono ?_
  rintro e wd ⟨tv2, rfl, htv2, hq5⟩
  obtain ⟨uk, unm, yk, yn, zs2, KB0, ul, uc, UA, vl, vc, rfl⟩ := htv2.form
  have hbD : Below wd.heap.size wd (wd.alloc (.cells #[.int .i64 uk, .string unm, .int .i64 yk, .int .i64 yn, .string zs2, .slice KB0 ul uc, .slice UA vl vc] 30)) := (Below.refl _ wd).alloc (Nat.le_refl _) _
  obtain ⟨we, hwe⟩ : ∃ we, wd.alloc (.cells #[.int .i64 uk, .string unm, .int .i64 yk, .int .i64 yn, .string zs2, .slice KB0 ul uc, .slice UA vl vc] 30) = we := ⟨_, rfl⟩
  have hY := World.alloc_heap_new wd (.cells #[.int .i64 uk, .string unm, .int .i64 yk, .int .i64 yn, .string zs2, .slice KB0 ul uc, .slice UA vl vc] 30)
  rw [hwe] at hY hbD
  have hq6 : Below w4.heap.size w4 we := (HC.out.trans (hq5.mono HC.out.size)).trans (hbD.mono (HC.out.trans (hq5.mono HC.out.size)).size)
  have hTe := HT4.out.below hq6
  have hUe := htv2.below hbD
  have hXe := heap_below HX.out hq6
  have HE := hid (HB4.out.trans (hq6.mono HB4.out.size))
  obtain ⟨p1, p2, p3⟩ := hTe.parts
  clear hW htv2 hq5 hbD hq6 HC
  obtain ⟨x0, x1, x2, x3, x4, x5, x6, _, _, _, _, _, _, _⟩ := blk7 hXe
  rcases HLAW.out with her | ⟨hpv, rfl, hl⟩
  · obtain rfl := HBAD.out her
    obtain rfl : tl = 0 := p2
    have hee : (er != 0) = true := by simpa using her
    have HTe := hid (And.intro hTe (And.intro hUe (And.intro hXe hY)))
    clear hTe hUe hXe hY
    go_wp2
    go_ret
    exact ⟨rfl, HE.out⟩
  · have hsm := sm_of hpv (M := 1000000) (by rw [pcs_length, HZ.out.2.2.1]; omega)
    have hd24 : deepTr t ≤ 24 := by rcases hl with h | h <;> omega
    have hD := deep_eq t _ _ we hTe hsm (by omega)
    have HTe := hid (And.intro hTe (And.intro hUe (And.intro hXe hY)))
    have HSM := hid hsm
    clear hTe hUe hXe hY hsm hpv p1 p2 p3
    rcases hl with ⟨hd, rfl, rfl⟩ | ⟨hd, rfl, rfl⟩
    · rw [hd] at hD
      go_wp2_with fail
      refine hD.mono ?_
      rintro e wf ⟨rfl, hq7⟩
      have HG := hid (HE.out.trans (hq7.mono HE.out.size))
      clear hD hq7 x0 x1 x2 x3 x4 x5 x6
      go_wp2
      go_ret
      exact ⟨rfl, HG.out⟩
    · obtain ⟨dt, hdt⟩ : ∃ d, deepTr t = d := ⟨_, rfl⟩
      rw [hdt] at hD hd
      have hdi : (dt : Int) < 24 := by omega
      go_wp2_with fail
      refine hD.mono ?_
      rintro e wf ⟨rfl, hq7⟩
      have hTf := HTe.out.1.below hq7
      have hUf := HTe.out.2.1.below hq7
      have hXf := heap_below HTe.out.2.2.1 hq7
      have hYf := heap_below HTe.out.2.2.2 hq7
      have hbf := HE.out.trans (hq7.mono HE.out.size)
      have hbl : Below wf.heap.size wf (wf.alloc (.cells #[.int .i64 tk, .string tnm, .int .i64 xk, .int .i64 xn, .string ys, .slice KA0 kl kc, .slice TA tl tc, .int .i64 tk, .string tnm, .int .i64 xk, .int .i64 xn, .string ys, .slice KA0 kl kc, .slice TA tl tc] 30)) := (Below.refl _ wf).alloc (Nat.le_refl _) _
      have hlit := World.alloc_heap_new wf (.cells #[.int .i64 tk, .string tnm, .int .i64 xk, .int .i64 xn, .string ys, .slice KA0 kl kc, .slice TA tl tc, .int .i64 tk, .string tnm, .int .i64 xk, .int .i64 xn, .string ys, .slice KA0 kl kc, .slice TA tl tc] 30)
      have hS := same_eq (seqTr [t, t]) _ _ _ _ _ (hUf.below hbl) (seq_lit2 (c := 2) hlit (hTf.below hbl) (hTf.below hbl)) (by unfold seqTr Sm Sm.SmTs Sm.SmTs Sm.SmTs; exact ⟨by simp, by simp, HSM.out, HSM.out, trivial⟩)
      have HF := hid (hbf.trans (hbl.mono hbf.size))
      clear hD hq7 hTf hUf hbf hbl hlit x0 x1 x2 x3 x4 x5 x6
      obtain ⟨x0, x1, x2, x3, x4, x5, x6, _, _, _, _, _, _, _⟩ := blk7 hXf
      obtain ⟨y0, y1, y2, y3, y4, y5, y6, _, _, _, _, _, _, _⟩ := blk7 hYf
      clear hXf hYf
      go_wp2_with fail
      refine hS.mono ?_
      rintro e wg ⟨rfl, hq8⟩
      have HG := hid (HF.out.trans (hq8.mono HF.out.size))
      clear hS hq8 x0 x1 x2 x3 x4 x5 x6 y0 y1 y2 y3 y4 y5 y6
      go_wp2
      go_ret
      exact ⟨rfl, HG.out⟩
end Go.Proofs.YtiinnnbpbnojgaaGreatDoor
