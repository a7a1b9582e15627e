/- What is proved: the law FlowMoves returns true whatever comes in. -/
import Derived.Test.YtiinnnbpbnojgaaGreatDoorFap
namespace Go.Proofs.YtiinnnbpbnojgaaGreatDoor
open Go Go.RowKit Go.Lib
set_option linter.unusedSimpArgs false
set_option linter.unusedVariables false

set_option maxRecDepth 100000 in
set_option maxHeartbeats 8000000 in
theorem FlowMoves_any (v v2 v3 : Value) (xs xs2 xs3 : List TkI) (w : World) (hx : TokIn w v xs) (hx2 : TokIn w v2 xs2) (hx3 : TokIn w v3 xs3) (hT : Tabs w) (hE : ErrTy w) :
    Calls Tryz.prog 3 #[v, v2, v3] w fun e w' => e = .returned (.bool true) ∧ Below w.heap.size w w' := by
  have hsh := shown16_any w hT hE
  have hF := fun wx (hb : Below w.heap.size w wx) => Few16_any v xs wx (hx.below hb)
  have hF2 := fun wx (hb : Below w.heap.size w wx) => Few16_any v2 xs2 wx (hx2.below hb)
  have hF3 := fun wx (hb : Below w.heap.size w wx) => Few16_any v3 xs3 wx (hx3.below hb)
  have hH := fun v ts p wx (hb : Below w.heap.size w wx) hx hv hp => Value_any v ts p wx hx hv (hT.below hb) (hE.below hb) hp
  have hfm := fewJ_fm xs
  have hfm2 := fewJ_fm xs2
  have hfm3 := fewJ_fm xs3
  obtain ⟨ts, hts⟩ : ∃ ts, fewJ xs = ts := ⟨_, rfl⟩
  obtain ⟨us, hus⟩ : ∃ ts, fewJ xs2 = ts := ⟨_, rfl⟩
  obtain ⟨vs, hvs⟩ : ∃ ts, fewJ xs3 = ts := ⟨_, rfl⟩
  rw [hts] at hfm
  rw [hus] at hfm2
  rw [hvs] at hfm3
  have HTS := hid (And.intro hts (And.intro hus hvs))
  obtain ⟨A0, c0, rfl, _⟩ := id hx
  obtain ⟨A02, c02, rfl, _⟩ := id hx2
  obtain ⟨A03, c03, rfl, _⟩ := id hx3
  clear hx hx2 hx3 hT hE hts hus hvs
  obtain ⟨r0, hr⟩ : ∃ r, valueW (pcs ts) = r := ⟨_, rfl⟩
  have HR := hid hr
  obtain ⟨L, hL⟩ : ∃ L, ts.length = L := ⟨_, rfl⟩
  obtain ⟨M, hM⟩ : ∃ L, us.length = L := ⟨_, rfl⟩
  obtain ⟨K3, hK⟩ : ∃ L, vs.length = L := ⟨_, rfl⟩
  have hL60 : L ≤ 60 := by rw [← hL]; exact hfm.1
  have hM60 : M ≤ 60 := by rw [← hM]; exact hfm2.1
  have hK60 : K3 ≤ 60 := by rw [← hK]; exact hfm3.1
  have HZ := hid (And.intro hL (And.intro hM hK))
  have HFM := hid (And.intro hfm (And.intro hfm2 hfm3))
  clear hr hL hM hK hfm hfm2 hfm3
  go_enter Tryz.func3, Tryz.ntmps3
  go_wp2_with fail
  refine hsh.mono ?_
  rintro e w1 ⟨rfl, hb1⟩
  go_wp2_with fail
  refine (hF w1 hb1).mono ?_
  rintro e w2 ⟨u, rfl, hu, hq⟩
  rw [show (xs.take 60).map cutJ = ts from HTS.out.1] at hu
  have hb2 := hb1.trans (hq.mono hb1.size)
  clear hq hF hsh hb1
  go_wp2_with fail
  refine (hF2 w2 hb2).mono ?_
  rintro e w3 ⟨u2, rfl, hu2, hq⟩
  rw [show (xs2.take 60).map cutJ = us from HTS.out.2.1] at hu2
  have hb3 := hb2.trans (hq.mono hb2.size)
  replace hu := hu.below hq
  clear hq hF2 hb2
  go_wp2_with fail
  refine (hF3 w3 hb3).mono ?_
  rintro e w4 ⟨u3, rfl, hu3, hq⟩
  rw [show (xs3.take 60).map cutJ = vs from HTS.out.2.2] at hu3
  have hb4 := hb3.trans (hq.mono hb3.size)
  replace hu := hu.below hq
  replace hu2 := hu2.below hq
  clear hq hF3 hb3
  obtain ⟨A, c, rfl, hc⟩ := hu.rm HZ.out.1
  obtain ⟨A2, c2, rfl, hc2⟩ := hu2.rm HZ.out.2.1
  obtain ⟨A3, c3, rfl, hc3⟩ := hu3.rm HZ.out.2.2
  have hV : Calls Tryz.prog 17 #[.slice A L c, .int .i64 0] w4 (PostW ts r0 w4) := by
    have := hH _ ts 0 w4 hb4 (HFM.out.1.fx (by omega)) hu.sl (Nat.zero_le _)
    rw [← HR.out]
    unfold valueW
    rw [pcs_length]
    exact this
  have HS := hid (And.intro (hu.src (Nat.le_refl _)) (And.intro (hu2.src (Nat.le_refl _)) (hu3.src (Nat.le_refl _))))
  have HB4 := hid hb4
  clear hu hu2 hu3 hb4
  go_wp2_with fail
  refine hV.mono ?_
  intro e w5 hp
  clear hV
  cases r0 with
  | bad er =>
    obtain ⟨rfl, hb⟩ := hp
    unfold tr0V
    have hne : er ≠ 0 := (bad_ne _).1 _ _ _ HR.out
    have hee : (er != 0) = true := by simpa using hne
    have hb5 := HB4.out.trans (hb.mono HB4.out.size)
    have HB := hid (hb5.alloc hb5.size (.cells #[.int .i64 0, .string ⟨#[]⟩, .int .i64 0, .int .i64 0, .string ⟨#[]⟩, .slice none 0 0, .slice none 0 0] 30))
    clear hb hb5 hne
    go_wp2
    go_ret
    exact ⟨rfl, HB.out⟩
  | ok t rest =>
    obtain ⟨q, tv, hq, hrest, rfl, htv, hb⟩ := hp
    obtain ⟨tk, tnm, xk, xn, ys, KA0, kl, kc, TA, tl, tc, rfl⟩ := htv.form
    obtain ⟨p, hp, hp1, hpl⟩ := moves_law HR.out (pcs vs)
    have hpv := (of_val HR.out)
    rw [hrest] at hp
    have hpp : p = pcs (ts.take q) := by
      have e : pcs ts = pcs (ts.take q) ++ pcs (ts.drop q) := by rw [← pcs_app, List.take_append_drop]
      rw [e] at hp
      exact (List.append_cancel_right hp).symm
    have hq1 : 1 ≤ q := by rw [hpp, pcs_length, List.length_take] at hp1; omega
    have hqL : q ≤ L := by rw [← HZ.out.1]; exact hq
    obtain ⟨ys1, hys1⟩ : ∃ z, us ++ ts.take q = z := ⟨_, rfl⟩
    obtain ⟨zs, hzs⟩ : ∃ z, ys1 ++ vs = z := ⟨_, rfl⟩
    have hly : ys1.length = M + q := by rw [← hys1, List.length_append, HZ.out.2.1, List.length_take, HZ.out.1]; omega
    have hlz : zs.length = M + q + K3 := by rw [← hzs, List.length_append, hly, HZ.out.2.2]
    have hfz : Fm 180 zs := by rw [← hzs, ← hys1]; exact ((HFM.out.2.1.app (HFM.out.1.take q)).app HFM.out.2.2).less (by omega)
    have hdz : zs.drop M = ts.take q ++ vs := by rw [← hzs, ← hys1, List.append_assoc, ← HZ.out.2.1, List.drop_left]
    have hvz : valF (2 * (zs.length - M) + 2) 1 (pcs (zs.drop M)) = .ok t (pcs vs) := by
      rw [hdz, pcs_app, ← hpp]
      exact hpl _ (by rw [hpp, pcs_length, List.length_take, HZ.out.1, hlz]; omega)
    have hsm : Sm 1000000 t := by
      obtain ⟨p', hp', hv', _⟩ := of_val HR.out
      exact sm_of hv' (by have h1 := congrArg List.length hp'; rw [List.length_append, pcs_length, HZ.out.1] at h1; omega)
    have hq0 : (0 : Int) ≤ (q : Int) := by omega
    have hqi : (q : Int) ≤ (L : Int) := by omega
    have hqc : (q : Int) ≤ (c : Int) := by omega
    have hmx : max (q : Int) 0 = (q : Int) := by omega
    have hmn : min (q : Int) (L : Int) = (q : Int) := by omega
    have hbA : Below w5.heap.size w5 (w5.alloc (.cells #[.int .i64 tk, .string tnm, .int .i64 xk, .int .i64 xn, .string ys, .slice KA0 kl kc, .slice TA tl tc] 30)) := (Below.refl _ w5).alloc (Nat.le_refl _) _
    obtain ⟨w6, hw6⟩ : ∃ w6, w5.alloc (.cells #[.int .i64 tk, .string tnm, .int .i64 xk, .int .i64 xn, .string ys, .slice KA0 kl kc, .slice TA tl tc] 30) = w6 := ⟨_, rfl⟩
    have hX := World.alloc_heap_new w5 (.cells #[.int .i64 tk, .string tnm, .int .i64 xk, .int .i64 xn, .string ys, .slice KA0 kl kc, .slice TA tl tc] 30)
    rw [hw6] at hX hbA
    have hq6 := hb.trans (hbA.mono hb.size)
    have h6 := HB4.out.trans (hq6.mono HB4.out.size)
    have HX := hid (And.intro hX (htv.below hbA))
    have HQ := hid hq6
    have H6 := hid h6
    have HW := hid (And.intro hys1 (And.intro hzs (And.intro hly (And.intro hlz (And.intro hfz hvz)))))
    have HSM := hid hsm
    clear hrest htv hb hp hp1 hpl hpv hpp hbA hX hq6 h6 hys1 hzs hly hlz hfz hdz hvz hsm hq
    have hd6 : Below w6.heap.size w6 w6.drew := (Below.refl _ w6).drew
    have HD6 := hid (HS.out.1.below (HQ.out.trans (hd6.mono HQ.out.size)))
    have HE6 := hid (HS.out.2.1.below (HQ.out.trans (hd6.mono HQ.out.size)))
    have HF6 := hid (HS.out.2.2.below (HQ.out.trans (hd6.mono HQ.out.size)))
    have hsz6 : w4.heap.size ≤ w6.heap.size := HQ.out.size
    have HN := hid (World.ownsRow_nil w6.drew w6.heap.size 39 3)
    clear hd6
    go_wp2
    /-R-/
    refine wp_region_noPanic ?_
    refine wp_region_held_drew (S := (fun w7 => w6.heap.size ≤ w7.heap.size)) (by kernel_rfl) (Nat.le_refl _) (fun hHeld => ?_)
    refine wpAnyH_take (i := 0) (v := ?_) rfl (by kernel_rfl) (by kernel_rfl) (by kernel_rfl) (fun _ _ _ h => h) (Or.inl ⟨by rfl, ?_⟩) hHeld ?_
    rotate_left
    · intro w hSw; (try dsimp only at hSw); (try simp only [List.getElem_toArray, List.getElem_cons_succ, List.getElem_cons_zero]); go_simp; (try with_reducible rfl)
    try simp only [Act.put, List.getElem_toArray, List.getElem_cons_succ, List.getElem_cons_zero, List.setIfInBounds_toArray, List.set_cons_zero, List.set_cons_succ]
    refine wpAnyH_take (i := 1) (v := ?_) rfl (by kernel_rfl) (by kernel_rfl) (by kernel_rfl) (fun _ _ _ h => h) (Or.inl ⟨by rfl, ?_⟩) hHeld ?_
    rotate_left
    · intro w hSw; (try dsimp only at hSw); (try simp only [List.getElem_toArray, List.getElem_cons_succ, List.getElem_cons_zero]); go_simp; (try with_reducible rfl)
    try simp only [Act.put, List.getElem_toArray, List.getElem_cons_succ, List.getElem_cons_zero, List.setIfInBounds_toArray, List.set_cons_zero, List.set_cons_succ]
    refine wpAnyH_take (i := 3) (v := ?_) rfl (by kernel_rfl) (by kernel_rfl) (by kernel_rfl) (fun _ _ _ h => h) (Or.inl ⟨by rfl, ?_⟩) hHeld ?_
    rotate_left
    · intro w hSw; (try dsimp only at hSw); (try simp only [List.getElem_toArray, List.getElem_cons_succ, List.getElem_cons_zero]); go_simp; (try with_reducible rfl)
    try simp only [Act.put, List.getElem_toArray, List.getElem_cons_succ, List.getElem_cons_zero, List.setIfInBounds_toArray, List.set_cons_zero, List.set_cons_succ]
    refine wpAnyH_take (i := 4) (v := ?_) rfl (by kernel_rfl) (by kernel_rfl) (by kernel_rfl) (fun _ _ _ h => h) (Or.inl ⟨by rfl, ?_⟩) hHeld ?_
    rotate_left
    · intro w hSw; (try dsimp only at hSw); (try simp only [List.getElem_toArray, List.getElem_cons_succ, List.getElem_cons_zero]); go_simp; (try with_reducible rfl)
    try simp only [Act.put, List.getElem_toArray, List.getElem_cons_succ, List.getElem_cons_zero, List.setIfInBounds_toArray, List.set_cons_zero, List.set_cons_succ]
    refine wpAnyH_take (i := 5) (v := ?_) rfl (by kernel_rfl) (by kernel_rfl) (by kernel_rfl) (fun _ _ _ h => h) (Or.inl ⟨by rfl, ?_⟩) hHeld ?_
    rotate_left
    · intro w hSw; (try dsimp only at hSw); (try simp only [List.getElem_toArray, List.getElem_cons_succ, List.getElem_cons_zero]); go_simp; (try with_reducible rfl)
    try simp only [Act.put, List.getElem_toArray, List.getElem_cons_succ, List.getElem_cons_zero, List.setIfInBounds_toArray, List.set_cons_zero, List.set_cons_succ]
    refine wpAnyH_take (i := 6) (v := ?_) rfl (by kernel_rfl) (by kernel_rfl) (by kernel_rfl) (fun _ _ _ h => h) (Or.inl ⟨by rfl, ?_⟩) hHeld ?_
    rotate_left
    · intro w hSw; (try dsimp only at hSw); (try simp only [List.getElem_toArray, List.getElem_cons_succ, List.getElem_cons_zero]); go_simp; (try with_reducible rfl)
    try simp only [Act.put, List.getElem_toArray, List.getElem_cons_succ, List.getElem_cons_zero, List.setIfInBounds_toArray, List.set_cons_zero, List.set_cons_succ]
    refine wpAnyH_take (i := 7) (v := ?_) rfl (by kernel_rfl) (by kernel_rfl) (by kernel_rfl) (fun _ _ _ h => h) (Or.inl ⟨by rfl, ?_⟩) hHeld ?_
    rotate_left
    · intro w hSw; (try dsimp only at hSw); (try simp only [List.getElem_toArray, List.getElem_cons_succ, List.getElem_cons_zero]); go_simp; (try with_reducible rfl)
    try simp only [Act.put, List.getElem_toArray, List.getElem_cons_succ, List.getElem_cons_zero, List.setIfInBounds_toArray, List.set_cons_zero, List.set_cons_succ]
    refine wpAnyH_take (i := 8) (v := ?_) rfl (by kernel_rfl) (by kernel_rfl) (by kernel_rfl) (fun _ _ _ h => h) (Or.inl ⟨by rfl, ?_⟩) hHeld ?_
    rotate_left
    · intro w hSw; (try dsimp only at hSw); (try simp only [List.getElem_toArray, List.getElem_cons_succ, List.getElem_cons_zero]); go_simp; (try with_reducible rfl)
    try simp only [Act.put, List.getElem_toArray, List.getElem_cons_succ, List.getElem_cons_zero, List.setIfInBounds_toArray, List.set_cons_zero, List.set_cons_succ]
    refine wpAnyH_take (i := 9) (v := ?_) rfl (by kernel_rfl) (by kernel_rfl) (by kernel_rfl) (fun _ _ _ h => h) (Or.inl ⟨by rfl, ?_⟩) hHeld ?_
    rotate_left
    · intro w hSw; (try dsimp only at hSw); (try simp only [List.getElem_toArray, List.getElem_cons_succ, List.getElem_cons_zero]); go_simp; (try with_reducible rfl)
    try simp only [Act.put, List.getElem_toArray, List.getElem_cons_succ, List.getElem_cons_zero, List.setIfInBounds_toArray, List.set_cons_zero, List.set_cons_succ]
    refine wpAnyH_take (i := 11) (v := ?_) rfl (by kernel_rfl) (by kernel_rfl) (by kernel_rfl) (fun _ _ _ h => h) (Or.inl ⟨by rfl, ?_⟩) hHeld ?_
    rotate_left
    · intro w hSw; (try dsimp only at hSw); (try simp only [List.getElem_toArray, List.getElem_cons_succ, List.getElem_cons_zero]); go_simp; (try with_reducible rfl)
    try simp only [Act.put, List.getElem_toArray, List.getElem_cons_succ, List.getElem_cons_zero, List.setIfInBounds_toArray, List.set_cons_zero, List.set_cons_succ]
    refine wpAnyH_ready (rs := [2]) (by kernel_rfl) (by simp) ?_
    refine AllReadyH.cons rfl (fun K hK => ?_) AllReadyH.nil
    refine step_append_tks (by rfl) _ _ (by rfl) w6.heap.size w4.heap.size (.slice none 0 0) (.slice A2 M c2) [] us us M w6.drew (by rfl) (by rfl) HN.out HE6.out (Nat.le_refl _) (by decide) (by rw [HZ.out.2.1]; omega) rfl HZ.out.2.1 ?_
    rintro va wa howna hba ⟨Aa, ca, rfl, hca⟩
    refine hK.out _ _ hba.size (fun hHeld2 => ?_)
    clear hK K hHeld
    have hHeld := hHeld2; clear hHeld2
    try simp only [Act.put, List.getElem_toArray, List.getElem_cons_succ, List.getElem_cons_zero, List.setIfInBounds_toArray, List.set_cons_zero, List.set_cons_succ]
    refine wpAnyH_ready (rs := [10]) (by kernel_rfl) (by simp) ?_
    refine AllReadyH.cons rfl (fun K hK => ?_) AllReadyH.nil
    refine step_append_tks (by rfl) _ _ (by rfl) w6.heap.size w4.heap.size (.slice Aa M ca) (.slice A q c) us (ts.take q) ys1 (M + q) wa (by rfl) (by rfl) howna ((HD6.out.below (hba.mono hsz6)).take (by rw [HZ.out.1]; omega)) hba.size (by rw [HZ.out.2.1]; omega) (by rw [List.length_take, HZ.out.1]; omega) HW.out.1 HW.out.2.2.1 ?_
    rintro vb wb hownb hbb ⟨Ab, cb, rfl, hcb⟩; replace hbb := hba.trans hbb
    refine hK.out _ _ hbb.size (fun hHeld2 => ?_)
    clear hK K hHeld
    have hHeld := hHeld2; clear hHeld2
    try simp only [Act.put, List.getElem_toArray, List.getElem_cons_succ, List.getElem_cons_zero, List.setIfInBounds_toArray, List.set_cons_zero, List.set_cons_succ]
    refine wpAnyH_ready (rs := [12]) (by kernel_rfl) (by simp) ?_
    refine AllReadyH.cons rfl (fun K hK => ?_) AllReadyH.nil
    refine step_append_tks (by rfl) _ _ (by rfl) w6.heap.size w4.heap.size (.slice Ab (M + q) cb) (.slice A3 K3 c3) ys1 vs zs (M + q + K3) wb (by rfl) (by rfl) hownb (HF6.out.below (hbb.mono hsz6)) hbb.size (by rw [HW.out.2.2.1]; omega) (by rw [HZ.out.2.2]; omega) HW.out.2.1 HW.out.2.2.2.1 ?_
    rintro vc wc hownc hbc ⟨Ac, cc, rfl, hcc⟩; replace hbc := hbb.trans hbc
    refine hK.out _ _ hbc.size (fun hHeld2 => ?_)
    clear hK K hHeld
    have hHeld := hHeld2; clear hHeld2
    try simp only [Act.put, List.getElem_toArray, List.getElem_cons_succ, List.getElem_cons_zero, List.setIfInBounds_toArray, List.set_cons_zero, List.set_cons_succ]
    refine wpAnyH_take (i := 13) (v := ?_) rfl (by kernel_rfl) (by kernel_rfl) (by kernel_rfl) (fun _ _ _ h => h) (Or.inl ⟨by rfl, ?_⟩) hHeld ?_
    rotate_left
    · intro w hSw; (try dsimp only at hSw); (try simp only [List.getElem_toArray, List.getElem_cons_succ, List.getElem_cons_zero]); go_simp; (try with_reducible rfl)
    try simp only [Act.put, List.getElem_toArray, List.getElem_cons_succ, List.getElem_cons_zero, List.setIfInBounds_toArray, List.set_cons_zero, List.set_cons_succ]
    refine wpAnyH_done (by kernel_rfl) ?_ _
    refine NoPanic.normal ?_
    /-E-/
    have hqc : Below w6.heap.size w6 wc := ((Below.refl _ w6).drew).trans hbc
    have h7 := H6.out.trans (hqc.mono H6.out.size)
    have hV := hH _ zs M wc h7 (HW.out.2.2.2.2.1.fx (by omega)) hownc.sl (by rw [HW.out.2.2.2.1]; omega)
    rw [HW.out.2.2.2.2.2] at hV
    have HC := hid (And.intro hqc h7)
    have HO := hid hownc
    clear hHeld howna hownb hownc hba hbb hbc hca hcb hcc hqc h7 HF6 HE6 HD6 HN hH hmx hmn hqi hq0
    go_wp2_with fail
    refine hV.mono ?_
    rintro e wd ⟨q2, tv2, hq2, hrest2, rfl, htv2, hb2⟩
    have hqq : q2 = M + q := by
      have h1 := congrArg List.length hrest2
      rw [pcs_length, pcs_length, List.length_drop, HZ.out.2.2, HW.out.2.2.2.1] at h1
      rw [HW.out.2.2.2.1] at hq2
      omega
    subst hqq
    obtain ⟨uk, unm, yk, yn, zs2, KB0, ul, uc, UA, vl, vc, rfl⟩ := htv2.form
    have hbD : Below wd.heap.size wd (wd.alloc (.cells #[.int .i64 uk, .string unm, .int .i64 yk, .int .i64 yn, .string zs2, .slice KB0 ul uc, .slice UA vl vc] 30)) := (Below.refl _ wd).alloc (Nat.le_refl _) _
    obtain ⟨we, hwe⟩ : ∃ we, wd.alloc (.cells #[.int .i64 uk, .string unm, .int .i64 yk, .int .i64 yn, .string zs2, .slice KB0 ul uc, .slice UA vl vc] 30) = we := ⟨_, rfl⟩
    have hY := World.alloc_heap_new wd (.cells #[.int .i64 uk, .string unm, .int .i64 yk, .int .i64 yn, .string zs2, .slice KB0 ul uc, .slice UA vl vc] 30)
    rw [hwe] at hY hbD
    have hq6 : Below w6.heap.size w6 we := (HC.out.1.trans (hb2.mono HC.out.1.size)).trans (hbD.mono (HC.out.1.trans (hb2.mono HC.out.1.size)).size)
    have hTe := HX.out.2.below hq6
    have hUe := htv2.below hbD
    have hXe := heap_below HX.out.1 hq6
    have HE := hid (H6.out.trans (hq6.mono H6.out.size))
    have hS := same_eq t _ _ _ _ _ hTe hUe HSM.out
    have e1 : ((M + q : Nat) : Int) = (M : Int) + (q : Int) := by omega
    have hqi : (q : Int) ≤ (L : Int) := by omega
    have hq1i : (1 : Int) ≤ (q : Int) := by omega
    have hwr : IntKind.i64.wrap ((M : Int) + (q : Int)) = (M : Int) + (q : Int) := IntWalk.i64_in _ (by omega)
    rw [e1]
    clear hV hrest2 htv2 hb2 hbD hq6 hTe hUe HC hq2 e1
    obtain ⟨x0, x1, x2, x3, x4, x5, x6, _, _, _, _, _, _, _⟩ := blk7 hXe
    obtain ⟨y0, y1, y2, y3, y4, y5, y6, _, _, _, _, _, _, _⟩ := blk7 hY
    clear hXe hY
    go_wp2_with fail
    refine hS.mono ?_
    rintro e wg ⟨rfl, hq8⟩
    have HG := hid (HE.out.trans (hq8.mono HE.out.size))
    clear hS hq8 x0 x1 x2 x3 x4 x5 x6 y0 y1 y2 y3 y4 y5 y6
    go_wp2
    go_ret
    exact ⟨rfl, HG.out⟩
end Go.Proofs.YtiinnnbpbnojgaaGreatDoor
