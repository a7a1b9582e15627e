/- What is proved: the law FlowCuts returns true whatever comes in. -/
import Derived.Test.YtiinnnbpbnojgaaGreatDoorFap
namespace Go.Proofs.YtiinnnbpbnojgaaGreatDoor
open Go Go.RowKit Go.Lib
set_option linter.unusedSimpArgs false
set_option linter.unusedVariables false

theorem fewJ_fx (xs : List TkI) : Fx (fewJ xs) := by
  refine ⟨by have := fewJ_len xs; omega, fun q hq => ?_⟩
  obtain ⟨t', _, e⟩ := List.mem_map.1 (show (fewJ xs)[q] ∈ (xs.take 60).map cutJ from List.getElem_mem hq)
  rw [List.getD, List.getElem?_eq_getElem hq, Option.getD_some, ← e]
  unfold cutJ
  rw [List.length_take]
  omega
theorem OwnI.room {w : World} {B : Nat} {v : Value} {ts : List TkI} (h : OwnI w B v ts) : ∃ A c, v = .slice A ts.length c ∧ ts.length ≤ c := by
  rcases h.2 with ⟨rfl, h0⟩ | ⟨g, cap, cur, rfl, _, _, hnc, _⟩
  · exact ⟨none, 0, by rw [h0], by omega⟩
  · exact ⟨_, cap, rfl, hnc⟩
theorem TokIn.take {w : World} {A : Option Addr} {n ca k : Nat} {ts : List TkI} (h : TokIn w (.slice A n ca) ts) (hk : k ≤ ts.length) (c : Nat) : TokIn w (.slice A k c) (ts.take k) := by
  obtain ⟨A', cap, hv, hc⟩ := h
  injection hv with e1 e2 e3
  subst e1
  refine ⟨A, c, by rw [List.length_take, Nat.min_eq_left hk], fun j hj => ?_⟩
  rw [List.length_take] at hj
  have e : (ts.take k).getD j ⟨0, [], 0⟩ = ts.getD j ⟨0, [], 0⟩ := by rw [List.getD, List.getD, List.getElem?_take, if_pos (by omega)]
  rw [e]
  exact hc j (by omega)
theorem Fx.take {ts : List TkI} (h : Fx ts) (k : Nat) : Fx (ts.take k) := by
  refine ⟨by rw [List.length_take]; have := h.len; omega, fun q hq => ?_⟩
  rw [List.length_take] at hq
  have e : (ts.take k).getD q ⟨0, [], 0⟩ = ts.getD q ⟨0, [], 0⟩ := by rw [List.getD, List.getD, List.getElem?_take, if_pos (by omega)]
  rw [e]
  exact h.str q (by omega)
theorem tr0_form {w : World} {S : Nat → Prop} {tv : Value} (h : TrIn w S tr0 tv) : ∃ (KA : Option Addr) (kc : Nat) (A : Option Addr) (c : Nat), tv = .agg #[.int .i64 0, .string ⟨#[]⟩, .int .i64 0, .int .i64 0, .string ⟨#[]⟩, .slice KA 0 kc, .slice A 0 c] := by
  unfold tr0 at h
  rw [TrIn] at h
  obtain ⟨kv, A, cap, e, ⟨KA, kc, e2, _⟩, _, _⟩ := h
  exact ⟨KA, kc, A, cap, by rw [e, e2]; rfl⟩

theorem wf_int {n : Int} (h : (Lit.int .i64 n).wf = true) : -9223372036854775808 ≤ n ∧ n ≤ 9223372036854775807 := by
  simp [Lit.wf, IntKind.min, IntKind.max, IntKind.bits, IntKind.signed] at h
  omega

set_option maxRecDepth 100000 in
set_option maxHeartbeats 4000000 in
theorem FlowCuts_any (v : Value) (n : Int) (xs : List TkI) (w : World) (hn : (Lit.int .i64 n).wf = true) (hx : TokIn w v xs) (hT : Tabs w) (hE : ErrTy w) :
    Calls Tryz.prog 6 #[v, .int .i64 n] w fun e w' => e = .returned (.bool true) ∧ Below w.heap.size w w' := by
  have hsh := shown16_any w hT hE
  have hF := fun wx (hb : Below w.heap.size w wx) => Few16_any v xs wx (hx.below hb)
  have hH := fun v ts wx (hb : Below w.heap.size w wx) hx hv hc => Whole_any v ts wx hx hv hc (hT.below hb) (hE.below hb)
  have hfx := fewJ_fx xs
  have hfl := fewJ_len xs
  obtain ⟨ts, hts⟩ : ∃ ts, fewJ xs = ts := ⟨_, rfl⟩
  rw [hts] at hfx hfl
  have HTS := hid hts
  obtain ⟨A0, c0, rfl, _⟩ := id hx
  clear hx hT hE hts
  obtain ⟨⟨t, er⟩, hr⟩ : ∃ r, wholeW (pcs ts) = r := ⟨_, rfl⟩
  have HR := hid hr
  obtain ⟨L, hL⟩ : ∃ L, ts.length = L := ⟨_, rfl⟩
  rw [hL] at hfl
  have HL := hid hL
  by_cases her : er = 0
  case neg =>
    have ht : t = tr0 := by
      have := whole_bad (pcs ts) (by rw [hr]; exact her)
      rw [hr] at this
      exact this
    subst ht
    have hee : (er != 0) = true := by simpa using her
    have hee2 : (er == 0) = false := by rw [beq_eq_false_iff_ne]; exact her
    clear hr hL
    go_enter Tryz.func6, Tryz.ntmps6
    go_wp2_with fail
    refine hsh.mono ?_
    rintro e w1 ⟨rfl, hb1⟩
    go_wp2_with fail
    refine (hF w1 hb1).mono ?_
    rintro e w2 ⟨u, rfl, hu, hq2⟩
    rw [show (xs.take 60).map cutJ = ts from HTS.out] at hu
    obtain ⟨A, c, rfl, hc⟩ := hu.room
    have hb2 := hb1.trans (hq2.mono hb1.size)
    have hW := hH _ ts w2 hb2 hfx hu.sl (by intro A' n' c' e; injection e with _ e1 e2; omega)
    rw [HR.out] at hW
    rw [HL.out] at hW ⊢
    clear hF hsh hH hu hb1 hq2
    go_wp2_with fail
    refine hW.mono ?_
    rintro e w3 ⟨tv, rfl, htv, hq3⟩
    obtain ⟨KA, kc, TA, tc, rfl⟩ := tr0_form htv
    have HB := hid ((hb2.trans (hq3.mono hb2.size)).alloc (hb2.trans (hq3.mono hb2.size)).size (.cells #[.int .i64 0, .string ⟨#[]⟩, .int .i64 0, .int .i64 0, .string ⟨#[]⟩, .slice KA 0 kc, .slice TA 0 tc] 30))
    clear hW htv hb2 hq3
    go_wp2
    go_ret
    exact ⟨rfl, HB.out⟩
  case pos =>
    subst her
    obtain ⟨hn1, hn2⟩ := wf_int hn
    by_cases h1 : n < 1
    · clear hr hL hn
      go_enter Tryz.func6, Tryz.ntmps6
      go_wp2_with fail
      refine hsh.mono ?_
      rintro e w1 ⟨rfl, hb1⟩
      go_wp2_with fail
      refine (hF w1 hb1).mono ?_
      rintro e w2 ⟨u, rfl, hu, hq2⟩
      rw [show (xs.take 60).map cutJ = ts from HTS.out] at hu
      obtain ⟨A, c, rfl, hc⟩ := hu.room
      have hb2 := hb1.trans (hq2.mono hb1.size)
      have hW := hH _ ts w2 hb2 hfx hu.sl (by intro A' n' c' e; injection e with _ e1 e2; omega)
      rw [HR.out] at hW
      rw [HL.out] at hW ⊢
      clear hF hsh hH hu hb1 hq2
      go_wp2_with fail
      refine hW.mono ?_
      rintro e w3 ⟨tv, rfl, htv, hq3⟩
      obtain ⟨tk, tnm, xk, xn, ys, KA0, kl, kc, TA, tl, tc, rfl⟩ := htv.form
      have hb3 := hb2.trans (hq3.mono hb2.size)
      have hb4 := hb3.alloc hb3.size (.cells #[.int .i64 tk, .string tnm, .int .i64 xk, .int .i64 xn, .string ys, .slice KA0 kl kc, .slice TA tl tc] 30)
      have HB := hid hb4
      clear hW htv hb2 hq3 hb3 hb4
      go_wp2
      go_ret
      exact ⟨rfl, HB.out⟩
    by_cases h2 : (L : Int) < n
    · have hnb : ¬ n < 1 := h1
      clear hr hL hn
      go_enter Tryz.func6, Tryz.ntmps6
      go_wp2_with fail
      refine hsh.mono ?_
      rintro e w1 ⟨rfl, hb1⟩
      go_wp2_with fail
      refine (hF w1 hb1).mono ?_
      rintro e w2 ⟨u, rfl, hu, hq2⟩
      rw [show (xs.take 60).map cutJ = ts from HTS.out] at hu
      obtain ⟨A, c, rfl, hc⟩ := hu.room
      have hb2 := hb1.trans (hq2.mono hb1.size)
      have hW := hH _ ts w2 hb2 hfx hu.sl (by intro A' n' c' e; injection e with _ e1 e2; omega)
      rw [HR.out] at hW
      rw [HL.out] at hW ⊢
      clear hF hsh hH hu hb1 hq2
      go_wp2_with fail
      refine hW.mono ?_
      rintro e w3 ⟨tv, rfl, htv, hq3⟩
      obtain ⟨tk, tnm, xk, xn, ys, KA0, kl, kc, TA, tl, tc, rfl⟩ := htv.form
      have hb3 := hb2.trans (hq3.mono hb2.size)
      have hb4 := hb3.alloc hb3.size (.cells #[.int .i64 tk, .string tnm, .int .i64 xk, .int .i64 xn, .string ys, .slice KA0 kl kc, .slice TA tl tc] 30)
      have HB := hid hb4
      clear hW htv hb2 hq3 hb3 hb4
      go_wp2
      go_ret
      exact ⟨rfl, HB.out⟩
    obtain ⟨m, rfl⟩ : ∃ m : Nat, n = (m : Int) := ⟨n.toNat, by omega⟩
    obtain ⟨hct, hce⟩ := cuts_law hr m (by omega) (by rw [pcs_length, hL]; omega)
    rw [pcs_length, hL, ← pcs_take] at hct hce
    obtain ⟨⟨t2, e2⟩, hr2⟩ : ∃ r, wholeW (pcs (ts.take (L - m))) = r := ⟨_, rfl⟩
    rw [hr2] at hct hce
    dsimp only at hct hce
    subst hct
    have HR2 := hid hr2
    have hkk : ((L : Int) - (m : Int)) = ((L - m : Nat) : Int) := by omega
    obtain ⟨k, hk⟩ : ∃ k, L - m = k := ⟨_, rfl⟩
    rw [hk] at hkk HR2
    have hkL : k ≤ L := by omega
    have h1' : ¬ (m : Int) < 1 := h1
    have h2' : ¬ (L : Int) < (m : Int) := h2
    have hlen : (ts.take k).length = k := by rw [List.length_take, HL.out]; omega
    clear hr hL hn hk hr2
    go_enter Tryz.func6, Tryz.ntmps6
    go_wp2_with fail
    refine hsh.mono ?_
    rintro e w1 ⟨rfl, hb1⟩
    go_wp2_with fail
    refine (hF w1 hb1).mono ?_
    rintro e w2 ⟨u, rfl, hu, hq2⟩
    rw [show (xs.take 60).map cutJ = ts from HTS.out] at hu
    obtain ⟨A, c, rfl, hc⟩ := hu.room
    have hb2 := hb1.trans (hq2.mono hb1.size)
    have hW := hH _ ts w2 hb2 hfx hu.sl (by intro A' n' c' e; injection e with _ e1 e2; omega)
    rw [HR.out] at hW
    have hcL : L ≤ c := by rw [← HL.out]; exact hc
    have hT3 := fun (w3 : World) (hb : Below w2.heap.size w2 w3) => TokIn.take (k := k) (hu.sl.below hb) (by rw [HL.out]; exact hkL) c
    rw [HL.out] at hW ⊢
    clear hF hsh hu hb1 hc
    go_wp2_with fail
    refine hW.mono ?_
    rintro e w3 ⟨tv, rfl, htv, hq3⟩
    obtain ⟨tk, tnm, xk, xn, ys, KA0, kl, kc, TA, tl, tc, rfl⟩ := htv.form
    have hb3 := hb2.trans (hq3.mono hb2.size)
    have hb4 := hb3.alloc hb3.size (.cells #[.int .i64 tk, .string tnm, .int .i64 xk, .int .i64 xn, .string ys, .slice KA0 kl kc, .slice TA tl tc] 30)
    have hq4 := hq3.trans (((Below.refl _ w3).alloc (Nat.le_refl _) (.cells #[.int .i64 tk, .string tnm, .int .i64 xk, .int .i64 xn, .string ys, .slice KA0 kl kc, .slice TA tl tc] 30)).mono hq3.size)
    have hW2 := hH (.slice A k c) (ts.take k) _ hb4 (hfx.take k) (hT3 _ hq4) (by intro A' n' c' e; injection e with _ e1 e2; omega)
    rw [HR2.out] at hW2
    have HB4 := hid hb4
    clear hW htv hb2 hq2 hq3 hb3 hb4 hT3 hH hq4
    go_wp2_with fail
    refine hW2.mono ?_
    rintro e w5 ⟨tv2, rfl, htv2, hq5⟩
    obtain ⟨KA2, kc2, TA2, tc2, rfl⟩ := tr0_form htv2
    have hb5 := HB4.out.trans (hq5.mono HB4.out.size)
    have HB6 := hid (hb5.alloc hb5.size (.cells #[.int .i64 0, .string ⟨#[]⟩, .int .i64 0, .int .i64 0, .string ⟨#[]⟩, .slice KA2 0 kc2, .slice TA2 0 tc2] 30))
    clear hW2 htv2 hq5 hb5
    rcases hce with rfl | rfl
    · go_wp2
      go_ret
      exact ⟨rfl, HB6.out⟩
    · go_wp2
      go_ret
      exact ⟨rfl, HB6.out⟩
end Go.Proofs.YtiinnnbpbnojgaaGreatDoor
