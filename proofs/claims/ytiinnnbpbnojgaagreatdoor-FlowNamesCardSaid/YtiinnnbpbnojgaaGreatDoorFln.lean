/- What is proved: the law FlowNames returns true whatever comes in. -/
import Derived.Test.YtiinnnbpbnojgaaGreatDoorFap
namespace Go.Proofs.YtiinnnbpbnojgaaGreatDoor
open Go Go.RowKit Go.Lib
set_option linter.unusedSimpArgs false
set_option linter.unusedVariables false

set_option maxRecDepth 100000 in
set_option maxHeartbeats 8000000 in
theorem FlowNames_any (v : Value) (s : ByteArray) (xs : List TkI) (w : World) (hx : TokIn w v xs) (hT : Tabs w) (hE : ErrTy w) :
    Calls Tryz.prog 5 #[v, .string s] w fun e w' => e = .returned (.bool true) ∧ Below w.heap.size w w' := by
  have hsh := shown16_any w hT hE
  have hF := fun wx (hb : Below w.heap.size w wx) => Few16_any v xs wx (hx.below hb)
  have hH := fun v ts wx (hb : Below w.heap.size w wx) hx hv hc => Whole_any v ts wx hx hv hc (hT.below hb) (hE.below hb)
  have hfm := fewJ_fm xs
  obtain ⟨ts, hts⟩ : ∃ ts, fewJ xs = ts := ⟨_, rfl⟩
  rw [hts] at hfm
  have HTS := hid hts
  obtain ⟨A0, c0, rfl, _⟩ := id hx
  clear hx hT hE hts
  obtain ⟨⟨t, er⟩, hr⟩ : ∃ r, wholeW (pcs ts) = r := ⟨_, rfl⟩
  have HR := hid hr
  have hC := fun wx => cutJ_same s wx
  obtain ⟨nm, hnm⟩ : ∃ nm, cut100 s = nm := ⟨_, rfl⟩
  have hnl : nm.data.toList.length ≤ 100 := by rw [← hnm, ← Lib.size_eq]; exact cut100_size s
  rw [hnm] at hC
  have HC := hid hC
  obtain ⟨us, hus⟩ : ∃ us, [TkI.mk 3 nm.data.toList 0] = us := ⟨_, rfl⟩
  obtain ⟨zs, hzs⟩ : ∃ zs, us ++ ts = zs := ⟨_, rfl⟩
  have hfm2 : Fm 61 zs := by rw [← hzs, ← hus]; exact ((Fm.one _ hnl).app hfm).less (by omega)
  obtain ⟨⟨t2, e2⟩, hr2⟩ : ∃ r, wholeW (pcs zs) = r := ⟨_, rfl⟩
  have HR2 := hid hr2
  obtain ⟨L, hL⟩ : ∃ L, ts.length = L := ⟨_, rfl⟩
  have hL60 : L ≤ 60 := by rw [← hL]; exact hfm.1
  have HZ := hid (And.intro hus (And.intro hzs hL))
  have hlu : us.length = 1 := by rw [← hus]; rfl
  have hlz : zs.length = 1 + L := by rw [← hzs, List.length_append, hlu, hL]
  have HLN := hid (And.intro hlu hlz)
  have hpz : pcs zs = ⟨3, nm.data.toList⟩ :: pcs ts := by rw [← hzs, ← hus, pcs_app]; rfl
  have hlaw : (er ≠ 0 ∧ e2 ≠ 0 ∧ t2 = tr0) ∨ (PV (pcs ts) t ∧ er = 0 ∧ L ≠ 0 ∧ ((t.kind = 3 ∧ e2 = 91) ∨ (t.kind ≠ 3 ∧ hk (pcs ts) = 3 ∧ e2 = 91) ∨ (t.kind ≠ 3 ∧ hk (pcs ts) ≠ 3 ∧ t2 = t.named nm.data.toList ∧ e2 = 0))) := by
    by_cases her : er = 0
    · subst her
      obtain ⟨h0, h1⟩ := names_law hr ⟨3, nm.data.toList⟩ rfl
      refine .inr ⟨(whole_ok hr).1, rfl, fun h => h0 (List.eq_nil_of_length_eq_zero (by rw [pcs_length, hL]; exact h)), ?_⟩
      rw [← hpz, hr2] at h1
      by_cases hk3 : t.kind = 3
      · rcases h1 with ⟨_, h2⟩ | ⟨h2, _⟩
        · injection h2 with h2 h3; exact .inl ⟨hk3, h3⟩
        · exact absurd hk3 h2
      · rcases h1 with ⟨h2, h3⟩ | ⟨_, h2, h3⟩
        · injection h3 with h3 h4; exact .inr (.inl ⟨hk3, h2.resolve_left hk3, h4⟩)
        · injection h3 with h3 h4; exact .inr (.inr ⟨hk3, h2, h3, h4⟩)
    · have h1 := names_bad (l := pcs ts) (by rw [hr]; exact her) ⟨3, nm.data.toList⟩ rfl
      rw [← hpz, hr2] at h1
      have h2 := whole_bad (pcs zs) (by rw [hr2]; exact h1)
      rw [hr2] at h2
      exact .inl ⟨her, h1, h2⟩
  have hhk : hk (pcs ts) = (ts.getD 0 ⟨0, [], 0⟩).kind := by cases ts <;> rfl
  have HHK := hid hhk
  have HLAW := hid hlaw
  have HFM := hid (And.intro hfm hfm2)
  clear hr hr2 hus hzs hL hlu hlz hpz hlaw hfm hfm2 hC hnm hhk
  go_enter Tryz.func5, Tryz.ntmps5
  go_wp2_with fail
  refine hsh.mono ?_
  rintro e w1 ⟨rfl, hb1⟩
  go_wp2_with fail
  refine (hF w1 hb1).mono ?_
  rintro e w2 ⟨u, rfl, hu, hq2⟩
  rw [show (xs.take 60).map cutJ = ts from HTS.out] at hu
  obtain ⟨A, c, rfl, hc⟩ := hu.rm HZ.out.2.2
  have hb2 := hb1.trans (hq2.mono hb1.size)
  have HTK := hid hu.sl
  have hW := hH _ ts w2 hb2 (HFM.out.1.fx (by omega)) hu.sl (by intro A' n' c' e; injection e with _ e1 e2; omega)
  rw [HR.out] at hW
  have HU := hid (hu.src (Nat.le_refl _))
  clear hF hsh hu hb1 hq2
  go_wp2_with fail
  refine (HC.out w2).mono ?_
  rintro e w2' ⟨rfl, hww⟩
  subst w2'
  go_wp2_with fail
  refine hW.mono ?_
  rintro e w3 ⟨tv, rfl, htv, hq3⟩
  obtain ⟨tk, tnm, xk, xn, ys, KA0, kl, kc, TA, tl, tc, rfl⟩ := htv.form
  have hbA : Below w3.heap.size w3 (w3.alloc (.cells #[.int .i64 tk, .string tnm, .int .i64 xk, .int .i64 xn, .string ys, .slice KA0 kl kc, .slice TA tl tc] 30)) := (Below.refl _ w3).alloc (Nat.le_refl _) _
  obtain ⟨w4, hw4⟩ : ∃ w4, w3.alloc (.cells #[.int .i64 tk, .string tnm, .int .i64 xk, .int .i64 xn, .string ys, .slice KA0 kl kc, .slice TA tl tc] 30) = w4 := ⟨_, rfl⟩
  have hs4 : w3.heap.size + 1 = w4.heap.size := by rw [← hw4]; simp
  have hX := World.alloc_heap_new w3 (.cells #[.int .i64 tk, .string tnm, .int .i64 xk, .int .i64 xn, .string ys, .slice KA0 kl kc, .slice TA tl tc] 30)
  rw [hw4] at hX hbA
  have HX := hid hX
  have HT4 := hid ((tr_less (S' := fun b => b < w3.heap.size) (fun b hb _ => hb) t _ htv).below hbA)
  have hb3 := hb2.trans (hq3.mono hb2.size)
  have HSZ := hid hb3.size
  have HB4 := hid (hb3.trans (hbA.mono hb3.size))
  have HQ4 := hid (hq3.trans (hbA.mono hq3.size))
  clear hW htv hq3 hb3 hX
  have HLIT := hid (World.alloc_heap_new w4 (.cells #[.int .i64 3, .string nm, .int .i64 0] 39))
  go_wp2_with (at_builtin; go_must (refine wpList_append_tks rfl _ _ rfl w4.heap.size (w4.heap.size + 1) (.slice none 0 0) (.slice (some ⟨w4.heap.size, 0, none⟩) 1 1) [] [⟨3, nm.data.toList, 0⟩] us 1 (w4.alloc (.cells #[.int .i64 3, .string nm, .int .i64 0] 39)) (by rfl) (by rfl) (World.ownsRow_nil _ _ _ _) (SrcI.lit HLIT.out (by omega)) (by simp) (by decide) (by simp) HZ.out.1 HLN.out.1 ?_))
  rintro va wa hown hba ⟨Aa, ca, rfl, hca⟩
  have hqa : Below w4.heap.size w4 wa := ((Below.refl _ w4).alloc (Nat.le_refl _) _).trans hba
  have HA := hid (And.intro hown hqa)
  have HSa := hid (HU.out.below (HQ4.out.trans (hqa.mono HQ4.out.size)))
  have hsa : w4.heap.size ≤ wa.heap.size := hqa.size
  clear hown hba hqa hca
  go_wp2_with (at_builtin; go_must (refine wpList_append_tks rfl _ _ rfl w4.heap.size w2.heap.size (.slice Aa 1 ca) (.slice A L c) us ts zs (1 + L) wa (by rfl) (by rfl) HA.out.1 HSa.out hsa (by rw [HLN.out.1]; decide) (by rw [HZ.out.2.2]; omega) HZ.out.2.1 HLN.out.2 ?_))
  rintro vc wc hown hba ⟨Ac, cc, rfl, hcc⟩
  have hqc : Below w4.heap.size w4 wc := HA.out.2.trans hba
  have hbc := HB4.out.trans (hqc.mono HB4.out.size)
  have hW := hH _ zs wc hbc (HFM.out.2.fx (by omega)) hown.sl (by intro A' n' c' e; injection e with _ e1 e2; omega)
  rw [HR2.out] at hW
  have HWC := hid hqc
  have HTK4 := hid (HTK.out.below (HQ4.out.trans (hqc.mono HQ4.out.size)))
  clear hown hba hqc hbc hH HSa HA HLIT hsa HU HQ4
  go_wp2_with fail
  refine hW.mono ?_
  rintro e wd ⟨tv2, rfl, htv2, hq5⟩
  obtain ⟨uk, unm, yk, yn, zs2, KB0, ul, uc, UA, vl, vc, rfl⟩ := htv2.form
  have hbD : Below wd.heap.size wd (wd.alloc (.cells #[.int .i64 uk, .string unm, .int .i64 yk, .int .i64 yn, .string zs2, .slice KB0 ul uc, .slice UA vl vc] 30)) := (Below.refl _ wd).alloc (Nat.le_refl _) _
  obtain ⟨we, hwe⟩ : ∃ we, wd.alloc (.cells #[.int .i64 uk, .string unm, .int .i64 yk, .int .i64 yn, .string zs2, .slice KB0 ul uc, .slice UA vl vc] 30) = we := ⟨_, rfl⟩
  have hY := World.alloc_heap_new wd (.cells #[.int .i64 uk, .string unm, .int .i64 yk, .int .i64 yn, .string zs2, .slice KB0 ul uc, .slice UA vl vc] 30)
  rw [hwe] at hY hbD
  have hq6 : Below w4.heap.size w4 we := (HWC.out.trans (hq5.mono HWC.out.size)).trans (hbD.mono (HWC.out.trans (hq5.mono HWC.out.size)).size)
  have hTe := HT4.out.below hq6
  have hUe := htv2.below hbD
  have hXe := heap_below HX.out hq6
  have HE := hid (HB4.out.trans (hq6.mono HB4.out.size))
  have HDS := hid (show w3.heap.size < wd.heap.size ∧ w.heap.size ≤ w3.heap.size ∧ w3.heap.size < wc.heap.size ∧ wc.heap.size ≤ wd.heap.size from ⟨by have h1 := HWC.out.size; have h2 := hq5.size; omega, HSZ.out, by have h1 := HWC.out.size; omega, hq5.size⟩)
  have hTk := HTK4.out.below ((hq5.mono (Nat.le_refl _)).trans (hbD.mono hq5.size))
  clear hW htv2 hq5 hbD hq6 HWC HTK4
  obtain ⟨x0, x1, x2, x3, x4, x5, x6, f0, f1, f2, f3, f4, f5, f6⟩ := blk7 hXe
  obtain ⟨y0, y1, y2, y3, y4, y5, y6, _, _, _, _, _, _, _⟩ := blk7 hY
  obtain ⟨p1, p2, p3⟩ := hTe.parts
  clear p2
  have hlt3 : w3.heap.size < we.heap.size := (Array.getElem?_eq_some_iff.1 hXe).1
  have hux := hUe.parts
  have HTe := hid (And.intro hTe hUe)
  clear hTe hUe
  rcases HLAW.out with ⟨her, her2, rfl⟩ | ⟨hpv, rfl, hL0, hl⟩
  · obtain rfl : vl = 0 := hux.2.1
    have hee : (er != 0) = true := by simpa using her
    have hee2 : (e2 != 0) = true := by simpa using her2
    clear p1 p3 hux
    go_wp2
    go_ret
    exact ⟨rfl, HE.out⟩
  · have hsm := hid (sm_of hpv (M := 1000000) (by rw [pcs_length, HZ.out.2.2]; omega))
    have HP := hid (And.intro p1 hXe)
    clear hpv p3 hux p1 hXe
    rcases hl with ⟨hk3, rfl⟩ | ⟨hk3, hk, rfl⟩ | ⟨hk3, hk, rfl, rfl⟩
    · obtain rfl : tk = 3 := HP.out.1.trans hk3
      clear hk3
      go_wp2
      go_ret
      exact ⟨rfl, HE.out⟩
    · obtain ⟨A', ca', e, hc⟩ := hTk
      injection e with e1 e2 e3
      subst e1 e3
      obtain ⟨b, o, rfl, hlt, a0, _⟩ := hc 0 (by rw [HZ.out.2.2]; omega)
      rw [← HHK.out, hk] at a0
      have htk : (tk == 3) = false := by rw [beq_eq_false_iff_ne, HP.out.1]; exact hk3
      have hL1 : (0 : Int) < (L : Int) := by omega
      simp only [Nat.zero_mul, Nat.add_zero] at a0
      clear hk3 hk hc e2
      go_wp2
      go_ret
      exact ⟨rfl, HE.out⟩
    · obtain ⟨A', ca', e, hc⟩ := hTk
      injection e with e1 e2 e3
      subst e1 e3
      obtain ⟨b, o, rfl, hlt, a0, _⟩ := hc 0 (by rw [HZ.out.2.2]; omega)
      obtain ⟨k0, hk0⟩ : ∃ k, (ts.getD 0 ⟨0, [], 0⟩).kind = k := ⟨_, rfl⟩
      rw [hk0] at a0
      have hkk : (k0 == 3) = false := by rw [beq_eq_false_iff_ne, ← hk0, ← HHK.out]; exact hk
      have htk : (tk == 3) = false := by rw [beq_eq_false_iff_ne, HP.out.1]; exact hk3
      have hL1 : (0 : Int) < (L : Int) := by omega
      simp only [Nat.zero_mul, Nat.add_zero] at a0
      have hne : wd.heap.size ≠ w3.heap.size := by have := HDS.out; omega
      have hm : ModR w3.heap.size we (we.setCell ⟨w3.heap.size, 1, none⟩ (.string nm)) := (ModR.refl _ _).set 1 _
      have hXs := heap_setCell_same we w3.heap.size 1 _ _ (.string nm) HP.out.2
      simp only [List.setIfInBounds_toArray, List.set_cons_zero, List.set_cons_succ] at hXs
      have hYs := hm.heap hY hne
      have hTs := (HTe.out.1.mod hm (Nat.lt_irrefl _)).name nm.data.toList
      rw [show (⟨nm.data.toList.toArray⟩ : ByteArray) = nm by cases nm; simp] at hTs
      have hUs : TrIn (we.setCell ⟨w3.heap.size, 1, none⟩ (.string nm)) (fun b => b ≠ w3.heap.size) (t.named nm.data.toList) _ := (tr_less (S' := fun b => b ≠ w3.heap.size) (fun b _ hb => by have := HDS.out; omega) _ _ HTe.out.2).mod hm (fun h => h rfl)
      have hS := same_eq (t.named nm.data.toList) _ _ _ _ _ hTs hUs (sm_named hsm.out _)
      have HF := hid (show Below w.heap.size w (we.setCell ⟨w3.heap.size, 1, none⟩ (.string nm)) from HE.out.setCell HDS.out.2.1 _)
      clear hk3 hk hc e2 hk0 hY hTs hUs hm
      obtain ⟨x0', x1', x2', x3', x4', x5', x6', _, _, _, _, _, _, _⟩ := blk7 hXs
      obtain ⟨y0', y1', y2', y3', y4', y5', y6', _, _, _, _, _, _, _⟩ := blk7 hYs
      clear hXs hYs
      go_wp2_with fail
      refine hS.mono ?_
      rintro e wg ⟨rfl, hq8⟩
      have HG := hid (HF.out.trans (hq8.mono HF.out.size))
      clear hS hq8 x0' x1' x2' x3' x4' x5' x6' y0' y1' y2' y3' y4' y5' y6'
      go_wp2
      go_ret
      exact ⟨rfl, HG.out⟩
end Go.Proofs.YtiinnnbpbnojgaaGreatDoor
