/- What is proved: the law BlockMoves returns true, whatever comes in. -/
import Derived.Test.YtaogfdffgdglkaaGreatDoorYxs
namespace Go.Proofs.YtaogfdffgdglkaaGreatDoor
set_option maxRecDepth 100000
set_option maxHeartbeats 8000000
open Go Go.RowKit Go.Lib
set_option linter.unusedSimpArgs false
set_option linter.unusedVariables false
def okM (x : Sc) : Bool := !(decide (x.num < 0) || decide (7000 < x.num) || decide (x.kind < 0) || decide (8000 < x.kind))
theorem okM_iff (x : Sc) : okM x = true ↔ 0 <= x.num /\ x.num <= 7000 /\ 0 <= x.kind /\ x.kind <= 8000 := by
 unfold okM; simp; omega
theorem take_allM {ys : List Sc} {k : Nat} (h : k < ys.length) : (ys.take (k + 1)).all okM = ((ys.take k).all okM && okM (ys.getD k CF)) := by
 rw [List.take_succ_eq_append_getElem h, List.all_append]
 simp [List.getD, List.getElem?_eq_getElem h]
theorem BlockMoves_any (v : Value) (n : Int) (xs : List Sc) (w : World) (hn : (Lit.int .i64 n).wf = true) (hxx : Cy w v xs /\ ∀ x ∈ xs, -9223372036854775808 <= x.kind /\ x.kind <= 9223372036854775807) (hT : Bz w) (hE : Cb w) (hL : Ot w) :
  Calls Tryz.prog 5 #[v, .int .i64 n] w fun e w' => e = .returned (.bool true) /\ Below w.heap.size w w' := by
 obtain ⟨hx, _⟩ := hxx
 obtain ⟨m, hm, hm9⟩ : ∃ m : Nat, min (max n 0) 9 = (m : Int) /\ m <= 9 := ⟨(min (max n 0) 9).toNat, by omega, by omega⟩
 have hS := Uf w hT hE hL
 have hF := fun wx (hb : Below w.heap.size w wx) => Vs v xs wx (hx.below hb)
 have hR := fun v xs wx (hb : Below w.heap.size w wx) hx hl hs hF => Qp 100000 (by decide) v xs wx hx hl hs hF (hT.below hb) (hE.below hb)
 obtain ⟨ys, hys⟩ : ∃ ys, (xs.take 40).map Ip = ys := ⟨_, rfl⟩
 have hlen := VR xs
 have hsz := Wk xs
 rw [hys] at hlen hsz
 simp only [hys] at hF
 obtain ⟨q, hq⟩ : ∃ q, ys.length = q := ⟨_, rfl⟩
 rw [hq] at hlen
 have HQ := hid hq
 have HSZ := hid hsz
 clear hys hT hE hL hx hsz hq
 go_enter Tryz.func5, Tryz.ntmps5
 go_wp2_with fail
 refine hS.mono ?_
 rintro e w1 ⟨rfl, hb1⟩
 clear hS
 go_wp2_with fail
 refine (hF w1 hb1).mono ?_
 rintro e w2 ⟨u, rfl, hu, hb2⟩
 replace hb2 := hb1.trans (hb2.mono hb1.size)
 have hus := hu.sl
 obtain ⟨A, ca, rfl, hA⟩ := hus
 rw [HQ.out] at hA |-
 have HA := hid hA
 have HU := hid hu
 have HB2 := hid hb2
 clear hF hA hu hb1 hb2
 go_wp2
 go_loopw [6] (fun i wr => ∃ k : Nat, k <= q /\ i = .int .i64 k /\ wr = w2 /\ Hid ((ys.take k).all okM = true)) (fun i _ => q - (intOf i).toNat)
 case atStart => exact ⟨0, by omega, rfl, rfl, hid rfl⟩
 case round =>
  obtain ⟨k, hk, rfl, rfl, HO⟩ := hrel
  by_cases hlt : k < q
  ·have hki : (k : Int) < (q : Int) := by omega
   obtain ⟨a, o, rfl, ha, a0, a1, a2⟩ := HA.out k hlt
   have htk := take_allM (ys := ys) (k := k) (by rw [HQ.out]; exact hlt)
   obtain ⟨⟨x0, x1, x2⟩, hx⟩ : ∃ x, ys.getD k CF = x := ⟨_, rfl⟩
   rw [hx] at a0 a1 a2 htk
   dsimp only at a0 a1 a2
   have HTK := hid htk
   clear a2 hx htk
   by_cases h1 : x1 < 0
   ·clear HTK
    go_wp2
    go_ret
    exact ⟨rfl, HB2.out⟩
   ·by_cases h2 : 7000 < x1
    ·clear HTK
     go_wp2
     go_ret
     exact ⟨rfl, HB2.out⟩
    ·by_cases h3 : x0 < 0
     ·clear HTK
      go_wp2
      go_ret
      exact ⟨rfl, HB2.out⟩
     ·by_cases h4 : 8000 < x0
      ·clear HTK
       go_wp2
       go_ret
       exact ⟨rfl, HB2.out⟩
      ·have HO2 := hid (show (ys.take (k + 1)).all okM = true by
        rw [HTK.out, HO.out]; unfold okM; simp; omega)
       go_wp2
       go_roundw
       case rel => exact ⟨k + 1, by omega, by go_num, by first | trivial | rfl, HO2⟩
       case measure => simp only [intOf]; omega
  ·have hki : ¬ (k : Int) < (q : Int) := by omega
   have HALL := hid (show ∀ x ∈ ys, 0 <= x.num /\ x.num <= 7000 /\ 0 <= x.kind /\ x.kind <= 8000 from fun x hx => by
    have := HO.out
    rw [List.take_of_length_le (by rw [HQ.out]; omega)] at this
    exact (okM_iff x).1 (List.all_eq_true.1 this x hx))
   have hfu := VO (ys := ys) (n := 40) (by rw [HQ.out]; exact hlen) HSZ.out
   have hys2 : Cy wr (.slice A q ca) ys := by have := HU.out.sl; rw [HQ.out] at this; exact this
   have hlq : ys.length <= 1000000 := by rw [HQ.out]; omega
   have hR1 := hR (.slice A q ca) ys wr HB2.out hys2 hlq (fun x hx => by have := HSZ.out x hx; omega) (fun es he => by have := hfu es he; omega)
   have hsh := V3 (F := 100000) (l := ys.map B7) (m : Int) 7 (by omega) (fun x hx => by
    obtain ⟨y, hy, rfl⟩ := List.mem_map.1 hx
    have := HALL.out y hy
    show 0 <= y.num /\ y.num + m <= 8000
    omega) (fun es he => by have := hfu es he; omega)
   rw [<- V7] at hsh
   have hRm := fun v wx hb hx => hR v (ys.map (Le m 7)) wx hb hx (by rw [List.length_map]; exact hlq) (fun x hx => by obtain ⟨y, hy, rfl⟩ := List.mem_map.1 hx; have := HSZ.out y hy; show y.str.size <= _; omega) (fun es he => by
    have := VO (ys := ys.map (Le m 7)) (n := 40) (by rw [List.length_map, HQ.out]; exact hlen) (fun x hx => by obtain ⟨y, hy, rfl⟩ := List.mem_map.1 hx; exact HSZ.out y hy) es he
    omega)
   have hMv := fun wx hx => Vu (.slice A q ca) ys m 7 wx hx (by rw [HQ.out]; omega) (fun x hx => by have := HALL.out x hx; omega)
   obtain ⟨⟨t1, n1, e1⟩, hr1⟩ : ∃ r, AL 100000 (ys.map B7) = r := ⟨_, rfl⟩
   obtain ⟨⟨t2, n2, e2⟩, hr2⟩ : ∃ r, AL 100000 ((ys.map (Le m 7)).map B7) = r := ⟨_, rfl⟩
   rw [hr1] at hR1 hsh
   rw [hr2] at hRm hsh
   dsimp only at hsh
   have HSM := hid (show Sm 1000000 t1 by
    have := VW (F := 100000) (M := 1000000) (l := ys.map B7) (fun es he => by have := hfu es he; omega)
    rw [hr1] at this; exact this)
   have HNO := hid (show 0 <= n1 /\ n1 <= 8000 by
    have := VY (F := 100000) (l := ys.map B7) (fun z => 0 <= z /\ z <= 8000) (by omega) (fun x hx => by obtain ⟨y, hy, rfl⟩ := List.mem_map.1 hx; exact (HALL.out y hy).2.2)
    rw [hr1] at this; exact this)
   have HSH := hid hsh
   clear HO hfu hr1 hr2 hR HALL hsh
   go_wp2_with fail
   refine hR1.mono ?_
   rintro e w3 ⟨tv, rfl, htv, hb3⟩
   obtain ⟨tk, tnm, xk, xn, zs, KA0, kl, kc, TA, tl, tc, rfl⟩ := htv.form
   have hb4 := HB2.out.trans (hb3.mono HB2.out.size)
   have hqA : Below w3.heap.size w3 (w3.alloc (.cells #[.int .i64 tk, .string tnm, .int .i64 xk, .int .i64 xn, .string zs, .slice KA0 kl kc, .slice TA tl tc] 30)) := (Bq _ _).alloc Nr _
   have hG := Wn w3 (.cells #[.int .i64 tk, .string tnm, .int .i64 xk, .int .i64 xn, .string zs, .slice KA0 kl kc, .slice TA tl tc] 30)
   have hb5 := hb4.trans (hqA.mono hb4.size)
   have hys5 := (hys2.below hb3).below hqA
   have htv5 := htv.below hqA
   clear hR1 hb3 hb4 hqA htv hys2
   go_wp2_with fail
   refine (hMv _ hys5).mono ?_
   rintro e w6 ⟨u6, rfl, hu6, hq6⟩
   have hb6 := hb5.trans (hq6.mono hb5.size)
   have hG6 := Aa hG hq6
   have htv6 := htv5.below hq6
   clear hMv hG htv5 hb5 hq6 hys5
   have hR6 := hRm u6 w6 hb6 hu6.sl
   go_wp2_with fail
   refine hR6.mono ?_
   rintro e w7 ⟨tv7, rfl, htv7, hq7⟩
   obtain ⟨uk, unm, yk, yn, vs, KB0, ul, uc, UA, vl, vc, rfl⟩ := htv7.form
   have hb7 := hb6.trans (hq7.mono hb6.size)
   have hqB : Below w7.heap.size w7 (w7.alloc (.cells #[.int .i64 uk, .string unm, .int .i64 yk, .int .i64 yn, .string vs, .slice KB0 ul uc, .slice UA vl vc] 30)) := (Bq _ _).alloc Nr _
   have hH8 := Wn w7 (.cells #[.int .i64 uk, .string unm, .int .i64 yk, .int .i64 yn, .string vs, .slice KB0 ul uc, .slice UA vl vc] 30)
   have hG8 := Aa (Aa hG6 hq7) hqB
   have htv8 := (htv6.below hq7).below hqB
   have huv8 := htv7.below hqB
   have HB8 := hid (hb7.trans (hqB.mono hb7.size))
   clear hR6 hRm hG6 htv6 hq7 hqB hb6 hb7 hu6 htv7
   obtain ⟨g0, g1, g2, g3, g4, g5, g6, _⟩ := Ay hG8
   obtain ⟨k0, k1, k2, k3, k4, k5, k6, _⟩ := Ay hH8
   by_cases he : e1 = 0
   ·subst he
    rcases HSH.out with ⟨_, h1, h2⟩ | ⟨_, h2⟩
    ·obtain ⟨rfl, rfl, rfl⟩ : t2 = t1 /\ n2 = n1 /\ e2 = 0 := by injection h1 with h1 h3; injection h3 with h3 h4; exact ⟨h1, h3, h4⟩
     subst h2
     have hS1 := OK t2 _ _ _ _ _ htv8 huv8 HSM.out
     clear HSH h1 htv8 huv8 hG8 hH8 HSM HNO
     go_wp2_with fail
     refine hS1.mono ?_
     rintro e w9 ⟨rfl, hq9⟩
     have HB9 := hid (HB8.out.trans (hq9.mono HB8.out.size))
     clear hS1 hq9 g0 g1 g2 g3 g4 g5 g6 k0 k1 k2 k3 k4 k5 k6
     go_wp2
     go_ret
     exact ⟨rfl, HB9.out⟩
    ·exact absurd rfl h2
   ·rcases HSH.out with ⟨h0, _⟩ | ⟨h1, _⟩
    ·exact absurd h0 he
    ·obtain ⟨rfl, rfl, rfl⟩ : t2 = CL /\ n2 = n1 + 7 /\ e2 = e1 := by injection h1 with h1 h3; injection h3 with h3 h4; exact ⟨h1, h3, h4⟩
     have hvl : vl = 0 := (Ao.parts huv8).2.1
     subst hvl
     have hne1 : (e2 != 0) = true := by simpa using he
     have hne2 : (e2 == 0) = false := by simpa using he
     have hwr : IntKind.i64.wrap (n1 + 7) = n1 + 7 := by have := HNO.out; go_arith
     clear HSH h1 htv8 huv8 hG8 hH8 HSM HNO he
     go_wp2
     go_ret
     exact ⟨by simp, HB8.out⟩
end Go.Proofs.YtaogfdffgdglkaaGreatDoor
