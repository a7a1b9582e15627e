/- What is proved: the law BlockItems returns true, whatever comes in. -/
import Derived.Test.YtaogfdffgdglkaaGreatDoorVc
import Derived.Test.YtaogfdffgdglkaaGreatDoorYxt
namespace Go.Proofs.YtaogfdffgdglkaaGreatDoor
set_option maxRecDepth 100000
set_option maxHeartbeats 8000000
open Go Go.RowKit Go.Lib
set_option linter.unusedSimpArgs false
set_option linter.unusedVariables false
theorem Xk (v : Value) (xs : List ByteArray) (w : World) (hx : Gj w v xs) (hT : Bz w) (hE : Cb w) (hL : Ot w) :
  Calls Tryz.prog 8 #[v] w fun e w' => e = .returned (.bool true) /\ Below w.heap.size w w' := by
 have hS := Uf w hT hE hL
 have hQ := fun X wx (hb : Below w.heap.size w wx) (hX : X.size <= 100000) => WO X wx hX (hT.below hb)
 have hR := fun v xs wx (hb : Below w.heap.size w wx) hx hl hs hF => Qp 20000 (by decide) v xs wx hx hl hs hF (hT.below hb) (hE.below hb)
 obtain ⟨A, ca, rfl, hA⟩ := hx
 obtain ⟨n, hn⟩ : ∃ n, xs.length = n := ⟨_, rfl⟩
 rw [hn] at hA |-
 have HA := hid hA
 have HR := hid hR
 have HQ := hid hQ
 clear hA hT hE hL hn hR hQ
 go_enter Tryz.func8, Tryz.ntmps8
 go_wp2_with fail
 refine hS.mono ?_
 rintro e w1 ⟨rfl, hb1⟩
 have hN1 := hb1.size
 clear hS
 go_wp2
 go_loopw [4, 5, 6] (fun o s i wr => ∃ (k : Nat) (ls : List (List UInt8)) (S : ByteArray), k <= n /\ k <= 9 /\ i = .int .i64 k /\ s = .string S /\ S.size <= 1 + 164 * k /\ BU wr w1.heap.size o (Dqz 0 ls) /\ Below w.heap.size w wr /\ w1.heap.size <= wr.heap.size ∧
  Hid (ls.length = k /\ (∀ l ∈ ls, validD l = true /\ l.length <= 40) /\ S.data.toList = 91 :: WX ls)) (fun _ _ i _ => 9 - (intOf i).toNat)
 case atStart => exact ⟨0, [], ⟨#[91]⟩, by omega, by omega, rfl, rfl, by decide, World.ownsRow_nil _ _ _ _, hb1, Nat.le_refl _, hid ⟨rfl, (fun l hl => by cases hl), rfl⟩⟩
 case round =>
  obtain ⟨k, ls, S, hk, hk9, rfl, rfl, hSz, hown, hb, hs1, HI⟩ := hrel
  by_cases hlt : k < n /\ k < 9
  ·obtain ⟨hlt, hlt9⟩ := hlt
   have hki : (k : Int) < (n : Int) := by omega
   have hki9 : (k : Int) < 9 := by omega
   have hk0 : (0 : Int) <= (k : Int) := by omega
   obtain ⟨a, o, rfl, ha, a0⟩ := HA.out k hlt
   obtain ⟨x, hx⟩ : ∃ x, xs.getD k ⟨#[]⟩ = x := ⟨_, rfl⟩
   rw [hx] at a0
   replace a0 := Ab a0 hb
   have hmin : (min (x.size : Int) 40) = ((min x.size 40 : Nat) : Int) := by omega
   have hle : ((min x.size 40 : Nat) : Int) <= (x.size : Int) := by omega
   obtain ⟨m, hm⟩ : ∃ m, min x.size 40 = m := ⟨_, rfl⟩
   rw [hm] at hmin hle
   have hm40 : m <= 40 := by omega
   have hle2 : m <= x.size := by omega
   obtain ⟨c, hc⟩ : ∃ c, x.extract 0 m = c := ⟨_, rfl⟩
   have hcs : c.size <= 40 := by rw [<- hc, ByteArray.size_extract]; omega
   obtain ⟨T, er, hqv, hcase⟩ := WD c.data.toList
   have hQ1 := HQ.out c wr.drew hb.drew (by omega)
   rw [hqv] at hQ1
   have HC := hid hcase
   have HW := hid (Ai hown (Ai hb a0))
   have haw : a < wr.heap.size := AS a0
   clear hx hqv hcase hown hb hm
   go_wp2
   refine wp_region_noPanic ?_
   refine wR 17 (S := (fun w' => w'.cell? ⟨a, o + k, none⟩ = some (.string x))) rfl a0 (fun hHeld => ?_)
   simp only [gR]
   iterate 11 (refine wN hHeld ?_; try simp only [gS])
   refine wB 11 rfl (fun K hK => ?_)
   go_simp
   refine hQ1.mono ?_
   rintro e w3 ⟨rfl, hb3⟩
   refine hK.out _ _ (Ab HW.out.2.2 ((Bq _ wr).drew.trans hb3)) (fun hHeld2 => ?_)
   clear hK K hHeld hQ1
   have hHeld := hHeld2; clear hHeld2
   try simp only [gS]
   iterate 5 (refine wN hHeld ?_; try simp only [gS])
   refine wpAnyH_done (by kernel_rfl) ?_ _
   refine NoPanic.normal ?_
   have hb3' : Below wr.heap.size wr w3 := (Bq _ wr).drew.trans hb3
   have HW3 := hid (Ai (HW.out.1.below hb3') (Ai (HW.out.2.1.trans (hb3'.mono HW.out.2.1.size)) (Nat.le_trans hs1 hb3'.size)))
   clear hb3 hb3' HW a0 hHeld
   rcases HC.out with ⟨rfl, rfl⟩ | ⟨rfl, hv, hTd⟩
   ·have HB := hid HW3.out.2.1
    clear HW3 HC
    go_wp2
    go_ret
    exact ⟨rfl, HB.out⟩
   ·have hTs : T.size <= 162 := by
     rw [Lib.size_eq, hTd]
     have := Pl c.data.toList
     rw [<- Lib.size_eq] at this
     omega
    obtain ⟨X, hX⟩ : ∃ X : ByteArray, (⟨#[45, 32]⟩ : ByteArray) ++ T = X := ⟨_, rfl⟩
    have hXd : X = ⟨(Mm (Aw c.data.toList)).toArray⟩ := by rw [<- hX, <- hTd]; apply ByteArray.ext; apply Array.ext'; simp [Mm]
    obtain ⟨S2, hS2⟩ : ∃ S2 : ByteArray, (S ++ T) ++ ⟨#[44, 32]⟩ = S2 := ⟨_, rfl⟩
    have hS2s : S2.size <= 1 + 164 * (k + 1) := by rw [<- hS2, ByteArray.size_append, ByteArray.size_append]; show S.size + T.size + 2 <= _; omega
    have HI2 := hid (show (ls ++ [c.data.toList]).length = k + 1 /\ (∀ l ∈ ls ++ [c.data.toList], validD l = true /\ l.length <= 40) /\ S2.data.toList = 91 :: WX (ls ++ [c.data.toList]) by
     obtain ⟨i1, i2, i3⟩ := HI.out
     refine ⟨by simp [i1], fun l hl => ?_, ?_⟩
     ·rcases List.mem_append.1 hl with hl | hl
      ·exact i2 l hl
      ·rw [List.mem_singleton.1 hl]; exact ⟨hv, by rw [<- Lib.size_eq]; exact hcs⟩
     ·rw [Xd, <- hS2]; simp [i3, hTd])
    have HRS := hid (show Dqz 0 (ls ++ [c.data.toList]) = Dqz 0 ls ++ [⟨(k : Int) + 1, 0, X⟩] /\ (Dqz 0 ls).length = k by
     refine ⟨?_, by rw [WA]; exact HI.out.1⟩
     rw [WJ, hXd, HI.out.1, Nat.zero_add])
    have hkw : IntKind.i64.wrap ((k : Int) + 1) = (k : Int) + 1 := by go_arith
    obtain ⟨R0, hR0⟩ : ∃ z, Dqz 0 ls = z := ⟨_, rfl⟩
    rw [hR0] at HW3 HRS
    have hs3 := HW3.out.2.2
    have HL3 := hid (Wn w3 (.cells #[.int .i64 ((k : Int) + 1), .int .i64 0, .string X] 40))
    have hq3 : Below w3.heap.size w3 (w3.alloc (.cells #[.int .i64 ((k : Int) + 1), .int .i64 0, .string X] 40)) := (Bq _ _).alloc Nr _
    have HO3 := hid (HW3.out.1.below hq3)
    have HB3 := hid (HW3.out.2.1.trans (hq3.mono HW3.out.2.1.size))
    clear HC hv hTd hXd hcs hc hR0 HW3 HI hq3
    go_wp2_with (at_builtin; go_must (refine OY rfl _ _ rfl w1.heap.size (w3.heap.size + 1) u4 (.slice (some ⟨w3.heap.size, 0, none⟩) 1 1) R0 [⟨(k : Int) + 1, 0, X⟩] (R0 ++ [⟨(k : Int) + 1, 0, X⟩]) (k + 1) (w3.alloc (.cells #[.int .i64 ((k : Int) + 1), .int .i64 0, .string X] 40)) (by rfl) (by rfl) HO3.out (IR.lit HL3.out (by omega)) (by simp; omega) (by rw [HRS.out.2]; omega) (by simp) rfl (by rw [List.length_append, HRS.out.2]; rfl) ?_))
    rintro v9 w9 hown9 hb9 ⟨A9, c9, rfl, hc9⟩
    have HF := hid (show BU w9 w1.heap.size (.slice A9 (k + 1) c9) (Dqz 0 (ls ++ [c.data.toList])) /\ Below w.heap.size w w9 /\ w1.heap.size <= w9.heap.size from
     ⟨by rw [HRS.out.1]; exact hown9, HB3.out.trans (hb9.mono hN1), Nat.le_trans (by simp; omega) hb9.size⟩)
    clear hown9 hb9 hc9 HO3 HL3 HB3 hX
    go_wp2
    go_roundw
    case rel => exact ⟨k + 1, ls ++ [c.data.toList], S2, by omega, by omega, by go_num, rfl, hS2s, HF.out.1, HF.out.2.1, HF.out.2.2, HI2⟩
    case measure => simp [intOf]; omega
  ·obtain ⟨i1, i2, i3⟩ := HI.out
   obtain ⟨A4, c4, rfl, _⟩ := hown.rm (n := k) (by rw [WA]; exact i1)
   obtain ⟨t1, hr1, ht1⟩ : ∃ t1, AL 20000 ((Dqz 0 ls).map B7) = (t1, 0, 0) /\ ((k = 0 /\ t1 = CL) \/ (k ≠ 0 /\ t1 = BA (ls.map DS))) := by
    rw [WK, Uv ls 20000 (fun l hl => (i2 l hl).1) (by omega)]
    by_cases h0 : ls = []
    ·rw [if_pos h0]; exact ⟨_, rfl, .inl ⟨by rw [<- i1, h0]; rfl, rfl⟩⟩
    ·rw [if_neg h0]; exact ⟨_, rfl, .inr ⟨fun e => h0 (List.eq_nil_of_length_eq_zero (by omega)), rfl⟩⟩
   have hfu := VO (ys := Dqz 0 ls) (n := 9) (by rw [WA]; omega) (WI 0 ls (fun l hl => (i2 l hl).2))
   have hR1 := HR.out (.slice A4 k c4) (Dqz 0 ls) wr hb hown.sl (by rw [WA]; omega) (fun x hx => by have := WI 0 ls (fun l hl => (i2 l hl).2) x hx; omega) (fun es he => by have := hfu es he; omega)
   rw [hr1] at hR1
   obtain ⟨Z, hZ⟩ : ∃ Z : ByteArray, S ++ ⟨#[93]⟩ = Z := ⟨_, rfl⟩
   have hZd : Z.data.toList = 91 :: Gw ls := by rw [<- hZ, WN]; simp [i3]
   have hZs : Z.size <= 2000 := by rw [<- hZ, ByteArray.size_append]; show S.size + 1 <= _; omega
   have hR2 := fun v wx hb hx => HR.out v [⟨1, 0, Z⟩] wx hb hx (by simp) (fun x hx => by rw [List.mem_singleton.1 hx]; show Z.size <= _; omega) (fun es he => by
    have h1 := MK he
    have h2 : (([(⟨1, 0, Z⟩ : Sc)].map B7).map fun x => x.s.length + 1).sum = Z.size + 1 := by rw [Lib.size_eq]; rfl
    omega)
   rw [VF, hZd, UV ls 20000 1 (fun l hl => (i2 l hl).1) (by decide)] at hR2
   have HT := hid (Ai ht1 i1)
   have hend : (¬ ((k : Int) < (n : Int))) \/ (((k : Int) < (n : Int)) /\ ¬ ((k : Int) < 9)) := by omega
   clear hfu hr1 i2 i3 hZd hown HI ht1
   rcases hend with hki | ⟨hki, hki9⟩
   all_goals
    clear hlt
    go_wp2_with fail
    refine hR1.mono ?_
    rintro e w3 ⟨tv, rfl, htv, hb3⟩
    obtain ⟨tk, tnm, xk, xn, zt, KA0, kl0, kc0, TA, tl, tc, rfl⟩ := htv.form
    have hqA : Below w3.heap.size w3 (w3.alloc (.cells #[.int .i64 tk, .string tnm, .int .i64 xk, .int .i64 xn, .string zt, .slice KA0 kl0 kc0, .slice TA tl tc] 30)) := (Bq _ _).alloc Nr _
    have hqB : Below w3.heap.size w3 ((w3.alloc (.cells #[.int .i64 tk, .string tnm, .int .i64 xk, .int .i64 xn, .string zt, .slice KA0 kl0 kc0, .slice TA tl tc] 30)).alloc (.cells #[.int .i64 1, .int .i64 0, .string Z] 40)) := hqA.alloc (by simp) _
    have hL5 := Wn (w3.alloc (.cells #[.int .i64 tk, .string tnm, .int .i64 xk, .int .i64 xn, .string zt, .slice KA0 kl0 kc0, .slice TA tl tc] 30)) (.cells #[.int .i64 1, .int .i64 0, .string Z] 40)
    have hT5 := Aa (Wn w3 (.cells #[.int .i64 tk, .string tnm, .int .i64 xk, .int .i64 xn, .string zt, .slice KA0 kl0 kc0, .slice TA tl tc] 30)) ((Bq _ (w3.alloc (.cells #[.int .i64 tk, .string tnm, .int .i64 xk, .int .i64 xn, .string zt, .slice KA0 kl0 kc0, .slice TA tl tc] 30))).alloc Nr (.cells #[.int .i64 1, .int .i64 0, .string Z] 40))
    have hb4 := hb.trans (hb3.mono hb.size)
    have hb5 := hb4.trans (hqB.mono hb4.size)
    have hR3 := hR2 _ _ hb5 (We hL5)
    have htv5 := htv.below hqB
    rw [World.size_alloc] at hR3
    clear hR1 hR2 hb3 hqA hqB hL5 hb4 htv
    go_wp2_with fail
    refine hR3.mono ?_
    rintro e w7 ⟨tv7, rfl, htv7, hq7⟩
    obtain ⟨uk, unm, yk, yn, vs, KB0, ul, uc, UA, vl, vc, rfl⟩ := htv7.form
    have hb7 := hb5.trans (hq7.mono hb5.size)
    have hqC : Below w7.heap.size w7 (w7.alloc (.cells #[.int .i64 uk, .string unm, .int .i64 yk, .int .i64 yn, .string vs, .slice KB0 ul uc, .slice UA vl vc] 30)) := (Bq _ _).alloc Nr _
    have hH8 := Wn w7 (.cells #[.int .i64 uk, .string unm, .int .i64 yk, .int .i64 yn, .string vs, .slice KB0 ul uc, .slice UA vl vc] 30)
    have hG8 := Aa (Aa hT5 hq7) hqC
    have htv8 := (htv5.below hq7).below hqC
    have huv8 := htv7.below hqC
    have HB8 := hid (hb7.trans (hqC.mono hb7.size))
    clear hR3 hT5 htv5 hq7 hqC hb5 hb7 htv7
    obtain ⟨g0, g1, g2, g3, g4, g5, g6, _⟩ := Ay hG8
    obtain ⟨k0, k1, k2, k3, k4, k5, k6, _⟩ := Ay hH8
    obtain ⟨p1, p2, p3⟩ := Ao.parts htv8
    obtain ⟨q1, q2, q3⟩ := Ao.parts huv8
    clear p3 q3
    rcases HT.out.1 with ⟨hk0, rfl⟩ | ⟨hk0, rfl⟩
    ·obtain rfl : tk = 0 := p1
     obtain rfl : uk = 1 := q1
     have hke : ((k : Int) == 0) = true := by rw [hk0]; rfl
     clear htv8 huv8 hG8 hH8 HT hk0 p2 q2
     go_wp2
     go_ret
     exact ⟨by simp, HB8.out⟩
    ·have hke : ((k : Int) == 0) = false := by rw [beq_eq_false_iff_ne]; omega
     have hS1 := OK (BA (ls.map DS)) _ _ _ _ _ htv8 huv8 (R6 (by rw [List.length_map, HT.out.2]; omega) (fun t ht => by obtain ⟨l, _, rfl⟩ := List.mem_map.1 ht; exact Xj l))
     have hlen : tl = k := by rw [p2]; have := HT.out.2; simpa [BA, Tr.kids] using this
     subst hlen
     have HG8 := hid hG8
     clear htv8 huv8 hG8 hH8 HT hk0 p1 p2 q1 q2 hki
     go_wp2_with fail
     refine hS1.mono ?_
     rintro e w9 ⟨rfl, hq9⟩
     obtain ⟨g0, g1, g2, g3, g4, g5, g6, _⟩ := Ay (Aa HG8.out hq9)
     have HB10 := hid (HB8.out.trans (hq9.mono HB8.out.size))
     clear hS1 hq9 k0 k1 k2 k3 k4 k5 k6
     go_wp2
     go_ret
     exact ⟨by simp, HB10.out⟩
end Go.Proofs.YtaogfdffgdglkaaGreatDoor
