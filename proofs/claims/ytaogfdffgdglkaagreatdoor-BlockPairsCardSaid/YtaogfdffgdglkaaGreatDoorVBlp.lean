/- What is proved: the law BlockPairs returns true, whatever comes in. -/
import Derived.Test.YtaogfdffgdglkaaGreatDoorVc
import Derived.Test.YtaogfdffgdglkaaGreatDoorYxt
namespace Go.Proofs.YtaogfdffgdglkaaGreatDoor
set_option maxRecDepth 100000
set_option maxHeartbeats 8000000
open Go Go.RowKit Go.Lib
set_option linter.unusedSimpArgs false
set_option linter.unusedVariables false
theorem Xh (v : Value) (xs : List ByteArray) (w : World) (hx : Gj w v xs) (hT : Bz w) (hE : Cb w) (hL : Ot w) :
  Calls Tryz.prog 9 #[v] w fun e w' => e = .returned (.bool true) /\ Below w.heap.size w w' := by
 have hS := Uf w hT hE hL
 have hQ := fun X wx (hb : Below w.heap.size w wx) (hX : X.size <= 100000) => WO X wx hX (hT.below hb)
 have hR := fun v xs wx (hb : Below w.heap.size w wx) hx hl hs hF => Qp 20000 (by decide) v xs wx hx hl hs hF (hT.below hb) (hE.below hb)
 obtain ⟨A, ca, rfl, hA⟩ := hx
 obtain ⟨n, hn⟩ : ∃ n, xs.length = n := ⟨_, rfl⟩
 rw [hn] at hA |-
 have HA := hid hA
 have HR := hid hR
 have HQ := hid hQ
 clear hA hT hE hL hn hR hQ
 go_enter Tryz.func9, Tryz.ntmps9
 go_wp2_with fail
 refine hS.mono ?_
 rintro e w1 ⟨rfl, hb1⟩
 have hN1 := hb1.size
 clear hS
 go_wp2
 go_loopw [4, 5, 6] (fun o s i wr => ∃ (k : Nat) (ls : List (List UInt8 × List UInt8)) (S : ByteArray), k <= n /\ k <= 18 /\ i = .int .i64 k /\ s = .string S /\ S.size <= 1 + 164 * k /\ BU wr w1.heap.size o (Dpz 0 ls) /\ Below w.heap.size w wr /\ w1.heap.size <= wr.heap.size ∧
  Hid (2 * ls.length = k /\ (∀ x ∈ ls, (validD x.1 = true /\ validD x.2 = true) /\ x.1.length <= 40 /\ x.2.length <= 40) /\ S.data.toList = 123 :: WY ls)) (fun _ _ i _ => 18 - (intOf i).toNat)
 case atStart => exact ⟨0, [], ⟨#[123]⟩, by omega, by omega, rfl, rfl, by decide, World.ownsRow_nil _ _ _ _, hb1, Nat.le_refl _, hid ⟨rfl, (fun l hl => by cases hl), rfl⟩⟩
 case round =>
  obtain ⟨k, ls, S, hk, hk9, rfl, rfl, hSz, hown, hb, hs1, HI⟩ := hrel
  have hkw : IntKind.i64.wrap ((k : Int) + 1) = (k : Int) + 1 := by go_arith
  by_cases hlt : k + 1 < n /\ k < 18
  ·obtain ⟨hlt, hlt9⟩ := hlt
   have hki : (k : Int) + 1 < (n : Int) := by omega
   have hki0 : (k : Int) < (n : Int) := by omega
   have hki9 : (k : Int) < 18 := by omega
   have hk0 : (0 : Int) <= (k : Int) := by omega
   have hk1 : (0 : Int) <= (k : Int) + 1 := by omega
   obtain ⟨a, o, rfl, ha, a0⟩ := HA.out k (by omega)
   obtain ⟨a', o', e, _, b0⟩ := HA.out (k + 1) hlt
   injection e with e
   injection e with e e'
   subst e e'
   obtain ⟨x, hx⟩ : ∃ x, xs.getD k ⟨#[]⟩ = x := ⟨_, rfl⟩
   obtain ⟨y, hy⟩ : ∃ y, xs.getD (k + 1) ⟨#[]⟩ = y := ⟨_, rfl⟩
   rw [hx] at a0
   rw [hy] at b0
   replace a0 := Ab a0 hb
   replace b0 := Ab b0 hb
   have hmin : (min (x.size : Int) 40) = ((min x.size 40 : Nat) : Int) := by omega
   have hle : ((min x.size 40 : Nat) : Int) <= (x.size : Int) := by omega
   obtain ⟨m, hm⟩ : ∃ m, min x.size 40 = m := ⟨_, rfl⟩
   rw [hm] at hmin hle
   have hm40 : m <= 40 := by omega
   have hle2 : m <= x.size := by omega
   have hminy : (min (y.size : Int) 40) = ((min y.size 40 : Nat) : Int) := by omega
   have hley : ((min y.size 40 : Nat) : Int) <= (y.size : Int) := by omega
   obtain ⟨my, hmy⟩ : ∃ m, min y.size 40 = m := ⟨_, rfl⟩
   rw [hmy] at hminy hley
   have hmy40 : my <= 40 := by omega
   have hley2 : my <= y.size := by omega
   obtain ⟨c, hc⟩ : ∃ c, x.extract 0 m = c := ⟨_, rfl⟩
   obtain ⟨d, hd⟩ : ∃ d, y.extract 0 my = d := ⟨_, rfl⟩
   have hcs : c.size <= 40 := by rw [<- hc, ByteArray.size_extract]; omega
   have hds : d.size <= 40 := by rw [<- hd, ByteArray.size_extract]; omega
   obtain ⟨T, er, hqv, hcase⟩ := WD c.data.toList
   obtain ⟨U, fr, hqw, hcasf⟩ := WD d.data.toList
   have hQ1 := HQ.out c wr.drew hb.drew (by omega)
   have hQ2 := fun wx hb => HQ.out d wx hb (by omega)
   rw [hqv] at hQ1
   rw [hqw] at hQ2
   have HC := hid hcase
   have HD := hid hcasf
   have HW := hid (Ai hown (Ai hb (Ai a0 b0)))
   have haw : a < wr.heap.size := AS a0
   have hQ3 := hid hQ2
   clear hx hy hqv hqw hcase hcasf hown hb hm hmy hQ2 b0
   go_wp2
   refine wp_region_noPanic ?_
   refine wR 17 (S := (fun w' => w'.cell? ⟨a, o + k, none⟩ = some (.string x))) rfl a0 (fun hHeld => ?_)
   simp only [gR]
   iterate 11 (refine wN hHeld ?_; try simp only [gS])
   refine wB 11 rfl (fun K hK => ?_)
   go_simp
   refine hQ1.mono ?_
   rintro e w3 ⟨rfl, hb3⟩
   refine hK.out _ _ (Ab HW.out.2.2.1 ((Bq _ wr).drew.trans hb3)) (fun hHeld2 => ?_)
   clear hK K hHeld hQ1
   have hHeld := hHeld2; clear hHeld2
   try simp only [gS]
   iterate 5 (refine wN hHeld ?_; try simp only [gS])
   refine wpAnyH_done (by kernel_rfl) ?_ _
   refine NoPanic.normal ?_
   have hb3' : Below wr.heap.size wr w3 := (Bq _ wr).drew.trans hb3
   have hb4 := HW.out.2.1.trans (hb3'.mono HW.out.2.1.size)
   have HW3 := hid (Ai (HW.out.1.below hb3') (Ai hb4 (Nat.le_trans hs1 hb3'.size)))
   have c0 := Ab HW.out.2.2.2 hb3'
   have haw3 : a < w3.heap.size := AS c0
   have hQ4 := hQ3.out w3.drew hb4.drew
   clear hb3 hb3' HW a0 hHeld hQ3 hb4 haw hs1
   go_wp2
   refine wp_region_noPanic ?_
   refine wR 19 (S := (fun w' => w'.cell? ⟨a, o + (k + 1), none⟩ = some (.string y))) rfl c0 (fun hHeld => ?_)
   simp only [gR]
   iterate 13 (refine wN hHeld ?_; try simp only [gS])
   refine wB 13 rfl (fun K hK => ?_)
   go_simp
   refine hQ4.mono ?_
   rintro e w5 ⟨rfl, hb5⟩
   refine hK.out _ _ (Ab c0 ((Bq _ w3).drew.trans hb5)) (fun hHeld2 => ?_)
   clear hK K hHeld hQ4
   have hHeld := hHeld2; clear hHeld2
   try simp only [gS]
   iterate 5 (refine wN hHeld ?_; try simp only [gS])
   refine wpAnyH_done (by kernel_rfl) ?_ _
   refine NoPanic.normal ?_
   have hb5' : Below w3.heap.size w3 w5 := (Bq _ w3).drew.trans hb5
   have HW5 := hid (Ai (HW3.out.1.below hb5') (Ai (HW3.out.2.1.trans (hb5'.mono HW3.out.2.1.size)) (Nat.le_trans HW3.out.2.2 hb5'.size)))
   clear hb5 hb5' HW3 c0 hHeld haw3
   rcases HC.out with ⟨rfl, rfl⟩ | ⟨rfl, hv, hTd⟩
   ·have HB := hid HW5.out.2.1
    clear HW5 HC HD
    go_wp2
    go_ret
    exact ⟨rfl, HB.out⟩
   ·have hTs : T.size <= 162 /\ 0 < T.size := by
     rw [Lib.size_eq, hTd]
     have := Pl c.data.toList
     rw [<- Lib.size_eq] at this
     refine ⟨by omega, by unfold Aw; simp⟩
    have hTe := AX hTs.2
    have hTs1 := hTs.1
    rcases HD.out with ⟨rfl, rfl⟩ | ⟨rfl, hvU, hUd⟩
    ·have HB := hid HW5.out.2.1
     clear HW5 HC HD hTs
     go_wp2
     go_ret
     exact ⟨rfl, HB.out⟩
    ·have hUs : U.size <= 162 := by
      rw [Lib.size_eq, hUd]
      have := Pl d.data.toList
      rw [<- Lib.size_eq] at this
      omega
     obtain ⟨X, hX⟩ : ∃ X : ByteArray, (T ++ (⟨#[58, 32]⟩ : ByteArray)) ++ U = X := ⟨_, rfl⟩
     have hXd : X = ⟨(N1 c.data.toList d.data.toList).toArray⟩ := by rw [<- hX]; apply ByteArray.ext; apply Array.ext'; simp [N1, hTd, hUd]
     obtain ⟨S2, hS2⟩ : ∃ S2 : ByteArray, (((S ++ T) ++ ⟨#[58, 32]⟩) ++ U) ++ ⟨#[44, 32]⟩ = S2 := ⟨_, rfl⟩
     have hS2s : S2.size <= 1 + 164 * (k + 2) := by rw [<- hS2, ByteArray.size_append, ByteArray.size_append, ByteArray.size_append, ByteArray.size_append]; show S.size + T.size + 2 + U.size + 2 <= _; omega
     have HI2 := hid (show 2 * (ls ++ [(c.data.toList, d.data.toList)]).length = k + 2 /\ (∀ x ∈ ls ++ [(c.data.toList, d.data.toList)], (validD x.1 = true /\ validD x.2 = true) /\ x.1.length <= 40 /\ x.2.length <= 40) /\ S2.data.toList = 123 :: WY (ls ++ [(c.data.toList, d.data.toList)]) by
      obtain ⟨i1, i2, i3⟩ := HI.out
      refine ⟨by simp; omega, fun l hl => ?_, ?_⟩
      ·rcases List.mem_append.1 hl with hl | hl
       ·exact i2 l hl
       ·rw [List.mem_singleton.1 hl]; exact ⟨⟨hv, hvU⟩, by rw [<- Lib.size_eq]; exact hcs, by rw [<- Lib.size_eq]; exact hds⟩
      ·rw [Xb, <- hS2]; simp [i3, hTd, hUd])
     have HRS := hid (show Dpz 0 (ls ++ [(c.data.toList, d.data.toList)]) = Dpz 0 ls ++ [⟨(k : Int) + 1, 0, X⟩] /\ 2 * (Dpz 0 ls).length = k by
      refine ⟨?_, by rw [WB]; exact HI.out.1⟩
      rw [WL, hXd, HI.out.1, Nat.zero_add])
     have hkw2 : IntKind.i64.wrap ((k : Int) + 2) = (k : Int) + 2 := by go_arith
     obtain ⟨R0, hR0⟩ : ∃ z, Dpz 0 ls = z := ⟨_, rfl⟩
     rw [hR0] at HW5 HRS
     obtain ⟨r, hr⟩ : ∃ r, R0.length = r := ⟨_, rfl⟩
     have hr2 : 2 * r = k := by rw [<- hr]; exact HRS.out.2
     have HRL := hid hr
     have HR2 := hid hr2
     have hs3 := HW5.out.2.2
     have HL3 := hid (Wn w5 (.cells #[.int .i64 ((k : Int) + 1), .int .i64 0, .string X] 40))
     have hq3 : Below w5.heap.size w5 (w5.alloc (.cells #[.int .i64 ((k : Int) + 1), .int .i64 0, .string X] 40)) := (Bq _ _).alloc Nr _
     have HO3 := hid (HW5.out.1.below hq3)
     have HB3 := hid (HW5.out.2.1.trans (hq3.mono HW5.out.2.1.size))
     have HR1 := hid HRS.out.1
     clear HC HD hv hvU hTd hUd hXd hcs hds hc hd hR0 HW5 HI hq3 hTs HRS hr hTe
     go_wp2_with (at_builtin; go_must (refine OY rfl _ _ rfl w1.heap.size (w5.heap.size + 1) u4 (.slice (some ⟨w5.heap.size, 0, none⟩) 1 1) R0 [⟨(k : Int) + 1, 0, X⟩] (R0 ++ [⟨(k : Int) + 1, 0, X⟩]) (r + 1) (w5.alloc (.cells #[.int .i64 ((k : Int) + 1), .int .i64 0, .string X] 40)) (by rfl) (by rfl) HO3.out (IR.lit HL3.out (by omega)) (by simp; omega) (by rw [HRL.out]; omega) (by simp) rfl (by rw [List.length_append, HRL.out]; rfl) ?_))
     rintro v9 w9 hown9 hb9 ⟨A9, c9, rfl, hc9⟩
     have HF := hid (show BU w9 w1.heap.size (.slice A9 (r + 1) c9) (Dpz 0 (ls ++ [(c.data.toList, d.data.toList)])) /\ Below w.heap.size w w9 /\ w1.heap.size <= w9.heap.size from
      ⟨by rw [HR1.out]; exact hown9, HB3.out.trans (hb9.mono hN1), Nat.le_trans (by simp; omega) hb9.size⟩)
     clear hown9 hb9 hc9 HO3 HL3 HB3 hX hr2
     go_wp2
     go_roundw
     case rel => exact ⟨k + 2, ls ++ [(c.data.toList, d.data.toList)], S2, by omega, by have := HR2.out; omega, by go_num, rfl, hS2s, HF.out.1, HF.out.2.1, HF.out.2.2, HI2⟩
     case measure => simp [intOf]; omega
  ·obtain ⟨i1, i2, i3⟩ := HI.out
   obtain ⟨r, hr⟩ : ∃ r, ls.length = r := ⟨_, rfl⟩
   rw [hr] at i1
   obtain ⟨A4, c4, rfl, _⟩ := hown.rm (n := r) (by rw [WB]; exact hr)
   obtain ⟨t1, hr1, ht1⟩ : ∃ t1, AL 20000 ((Dpz 0 ls).map B7) = (t1, 0, 0) /\ ((r = 0 /\ t1 = CL) \/ (r ≠ 0 /\ t1 = BJ (ls.map (fun x => PX x.1)) (ls.map (fun x => DS x.2)))) := by
    rw [WH, UK ls 20000 (fun x hx => (i2 x hx).1) (by omega)]
    by_cases h0 : ls = []
    ·rw [if_pos h0]; exact ⟨_, rfl, .inl ⟨by rw [<- hr, h0]; rfl, rfl⟩⟩
    ·rw [if_neg h0]; exact ⟨_, rfl, .inr ⟨fun e => h0 (List.eq_nil_of_length_eq_zero (by omega)), rfl⟩⟩
   have hfu := VO (ys := Dpz 0 ls) (n := 9) (by rw [WB]; omega) (WM 0 ls (fun x hx => (i2 x hx).2))
   have hR1 := HR.out (.slice A4 r c4) (Dpz 0 ls) wr hb hown.sl (by rw [WB]; omega) (fun x hx => by have := WM 0 ls (fun x hx => (i2 x hx).2) x hx; omega) (fun es he => by have := hfu es he; omega)
   rw [hr1] at hR1
   obtain ⟨Z, hZ⟩ : ∃ Z : ByteArray, S ++ ⟨#[125]⟩ = Z := ⟨_, rfl⟩
   have hZd : Z.data.toList = 123 :: G1 ls := by rw [<- hZ, WQ]; simp [i3]
   have hZs : Z.size <= 3000 := by rw [<- hZ, ByteArray.size_append]; show S.size + 1 <= _; omega
   have hR2 := fun v wx hb hx => HR.out v [⟨1, 0, Z⟩] wx hb hx (by simp) (fun x hx => by rw [List.mem_singleton.1 hx]; show Z.size <= _; omega) (fun es he => by
    have h1 := MK he
    have h2 : (([(⟨1, 0, Z⟩ : Sc)].map B7).map fun x => x.s.length + 1).sum = Z.size + 1 := by rw [Lib.size_eq]; rfl
    omega)
   rw [VF, hZd, UW ls 20000 1 (fun x hx => (i2 x hx).1) (by decide)] at hR2
   have HT := hid (Ai ht1 hr)
   have hr9 : r <= 9 := by omega
   have hend : (¬ ((k : Int) + 1 < (n : Int))) \/ (((k : Int) + 1 < (n : Int)) /\ ¬ ((k : Int) < 18)) := by omega
   clear hfu hr1 hr i1 i2 i3 hZd hown HI ht1
   rcases hend with hki | ⟨hki, hki9⟩
   all_goals
    clear hlt
    go_wp2_with fail
    refine hR1.mono ?_
    rintro e w3 ⟨tv, rfl, htv, hb3⟩
    obtain ⟨tk, tnm, xk, xn, zt, KA0, kl0, kc0, TA, tl, tc, rfl⟩ := htv.form
    have hqA : Below w3.heap.size w3 (w3.alloc (.cells #[.int .i64 tk, .string tnm, .int .i64 xk, .int .i64 xn, .string zt, .slice KA0 kl0 kc0, .slice TA tl tc] 30)) := (Bq _ _).alloc Nr _
    have hqB : Below w3.heap.size w3 ((w3.alloc (.cells #[.int .i64 tk, .string tnm, .int .i64 xk, .int .i64 xn, .string zt, .slice KA0 kl0 kc0, .slice TA tl tc] 30)).alloc (.cells #[.int .i64 1, .int .i64 0, .string Z] 40)) := hqA.alloc (by simp) _
    have hL5 := Wn (w3.alloc (.cells #[.int .i64 tk, .string tnm, .int .i64 xk, .int .i64 xn, .string zt, .slice KA0 kl0 kc0, .slice TA tl tc] 30)) (.cells #[.int .i64 1, .int .i64 0, .string Z] 40)
    have hT5 := Aa (Wn w3 (.cells #[.int .i64 tk, .string tnm, .int .i64 xk, .int .i64 xn, .string zt, .slice KA0 kl0 kc0, .slice TA tl tc] 30)) ((Bq _ (w3.alloc (.cells #[.int .i64 tk, .string tnm, .int .i64 xk, .int .i64 xn, .string zt, .slice KA0 kl0 kc0, .slice TA tl tc] 30))).alloc Nr (.cells #[.int .i64 1, .int .i64 0, .string Z] 40))
    have hb4 := hb.trans (hb3.mono hb.size)
    have hb5 := hb4.trans (hqB.mono hb4.size)
    have hR3 := hR2 _ _ hb5 (We hL5)
    have htv5 := htv.below hqB
    rw [World.size_alloc] at hR3
    clear hR1 hR2 hb3 hqA hqB hL5 hb4 htv
    go_wp2_with fail
    refine hR3.mono ?_
    rintro e w7 ⟨tv7, rfl, htv7, hq7⟩
    obtain ⟨uk, unm, yk, yn, vs, KB0, ul, uc, UA, vl, vc, rfl⟩ := htv7.form
    have hb7 := hb5.trans (hq7.mono hb5.size)
    have hqC : Below w7.heap.size w7 (w7.alloc (.cells #[.int .i64 uk, .string unm, .int .i64 yk, .int .i64 yn, .string vs, .slice KB0 ul uc, .slice UA vl vc] 30)) := (Bq _ _).alloc Nr _
    have hH8 := Wn w7 (.cells #[.int .i64 uk, .string unm, .int .i64 yk, .int .i64 yn, .string vs, .slice KB0 ul uc, .slice UA vl vc] 30)
    have hG8 := Aa (Aa hT5 hq7) hqC
    have htv8 := (htv5.below hq7).below hqC
    have huv8 := htv7.below hqC
    have HB8 := hid (hb7.trans (hqC.mono hb7.size))
    clear hR3 hT5 htv5 hq7 hqC hb5 hb7 htv7
    obtain ⟨g0, g1, g2, g3, g4, g5, g6, _⟩ := Ay hG8
    obtain ⟨k0, k1, k2, k3, k4, k5, k6, _⟩ := Ay hH8
    obtain ⟨p1, p2, p3⟩ := Ao.parts htv8
    obtain ⟨q1, q2, q3⟩ := Ao.parts huv8
    clear p3 q3
    rcases HT.out.1 with ⟨hk0, rfl⟩ | ⟨hk0, rfl⟩
    ·obtain rfl : tk = 0 := p1
     obtain rfl : uk = 2 := q1
     have hke : ((r : Int) == 0) = true := by rw [hk0]; rfl
     clear htv8 huv8 hG8 hH8 HT hk0 p2 q2
     go_wp2
     go_ret
     exact ⟨by simp, HB8.out⟩
    ·have hke : ((r : Int) == 0) = false := by rw [beq_eq_false_iff_ne]; omega
     have hS1 := OK (BJ (ls.map (fun x => PX x.1)) (ls.map (fun x => DS x.2))) _ _ _ _ _ htv8 huv8 (Sw (by rw [List.length_map, HT.out.2]; omega) (by rw [List.length_map, HT.out.2]; omega) (fun t ht => by obtain ⟨l, _, rfl⟩ := List.mem_map.1 ht; exact Xj _))
     have hlen : kl0 = r := by rw [Xg htv8, List.length_map]; exact HT.out.2
     subst hlen
     have HG8 := hid hG8
     clear htv8 huv8 hG8 hH8 HT hk0 p1 p2 q1 q2 hki
     go_wp2_with fail
     refine hS1.mono ?_
     rintro e w9 ⟨rfl, hq9⟩
     obtain ⟨g0, g1, g2, g3, g4, g5, g6, _⟩ := Ay (Aa HG8.out hq9)
     have HB10 := hid (HB8.out.trans (hq9.mono HB8.out.size))
     clear hS1 hq9 k0 k1 k2 k3 k4 k5 k6
     go_wp2
     go_ret
     exact ⟨by simp, HB10.out⟩
end Go.Proofs.YtaogfdffgdglkaaGreatDoor
