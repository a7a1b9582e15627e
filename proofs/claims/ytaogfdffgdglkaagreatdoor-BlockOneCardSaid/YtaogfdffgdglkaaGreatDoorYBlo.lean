/- What is proved: the law BlockOne returns true, whatever comes in. -/
import Derived.Test.YtaogfdffgdglkaaGreatDoorYxs
namespace Go.Proofs.YtaogfdffgdglkaaGreatDoor
set_option maxRecDepth 100000
set_option maxHeartbeats 8000000
open Go Go.RowKit Go.Lib
set_option linter.unusedSimpArgs false
set_option linter.unusedVariables false
theorem BlockOne_any (s : ByteArray) (w : World) (hT : Bz w) (hE : Cb w) (hL : Ot w) :
  Calls Tryz.prog 7 #[.string s] w fun e w' => e = .returned (.bool true) /\ Below w.heap.size w w' := by
 have hmin : (min (s.size : Int) 100) = ((min s.size 100 : Nat) : Int) := by omega
 have hle : ((min s.size 100 : Nat) : Int) <= (s.size : Int) := by omega
 obtain ⟨m, hm⟩ : ∃ m, min s.size 100 = m := ⟨_, rfl⟩
 rw [hm] at hmin hle
 have hm100 : m <= 100 := by omega
 obtain ⟨S, hS⟩ : ∃ S, s.extract 0 m = S := ⟨_, rfl⟩
 have hSs : S.size <= 100 := by rw [<- hS, ByteArray.size_extract]; omega
 have hsh := Uf w hT hE hL
 obtain ⟨X, hX⟩ : ∃ X : ByteArray, ((⟨#[45, 32, 91]⟩ : ByteArray) ++ S) ++ ⟨#[93]⟩ = X := ⟨_, rfl⟩
 obtain ⟨Y, hY⟩ : ∃ Y : ByteArray, ((⟨#[91]⟩ : ByteArray) ++ S) ++ ⟨#[93]⟩ = Y := ⟨_, rfl⟩
 have hXd : X.data.toList = 45 :: 32 :: (91 :: (S.data.toList ++ [93])) := by rw [<- hX]; simp
 have hYd : Y.data.toList = 91 :: (S.data.toList ++ [93]) := by rw [<- hY]; simp
 have hXs : X.size <= 400 := by rw [<- hX, ByteArray.size_append, ByteArray.size_append]; show 3 + S.size + 1 <= _; omega
 have hYs : Y.size <= 400 := by rw [<- hY, ByteArray.size_append, ByteArray.size_append]; show 1 + S.size + 1 <= _; omega
 have hR := fun (Z : ByteArray) (hZ : Z.size <= 400) v wx (hb : Below w.heap.size w wx) (hx : Cy wx v [⟨5, 0, Z⟩]) => Qp 2000 (by decide) v [⟨5, 0, Z⟩] wx hx (by simp) (fun x hx => by rw [List.mem_singleton.1 hx]; show Z.size <= _; omega)
  (fun es he => by have := VO (ys := [⟨5, 0, Z⟩]) (n := 1) (by simp) (fun x hx => by rw [List.mem_singleton.1 hx]; exact hZ) es he; omega) (hT.below hb) (hE.below hb)
 have hRX := hR X hXs
 have hRY := hR Y hYs
 have hlaw := VM (F := 2000) (S.data.toList ++ [93]) 5 (by omega)
 have hfu : ∀ es, C7 ([(⟨5, 0, Y⟩ : Sc)].map B7) = .ok es -> Dw es <= 1000000 := fun es he => by
  have := VO (ys := [⟨5, 0, Y⟩]) (n := 1) (by simp) (fun x hx => by rw [List.mem_singleton.1 hx]; exact hYs) es he
  omega
 have hsm := VW (F := 2000) hfu
 rw [VF, hYd] at hsm
 rw [VF, hXd] at hRX
 rw [VF, hYd] at hRY
 obtain ⟨⟨t1, n1, e1⟩, hr1⟩ : ∃ r, AL 2000 [⟨5, 0, 45 :: 32 :: (91 :: (S.data.toList ++ [93]))⟩] = r := ⟨_, rfl⟩
 obtain ⟨⟨t2, n2, e2⟩, hr2⟩ : ∃ r, AL 2000 [⟨5, 0, 91 :: (S.data.toList ++ [93])⟩] = r := ⟨_, rfl⟩
 rw [hr1] at hRX hlaw
 rw [hr2] at hRY hlaw hsm
 dsimp only at hlaw hsm
 have HLAW := hid hlaw
 have HSM := hid hsm
 clear hT hE hL hR hlaw hsm hfu hr1 hr2 hXd hYd hXs hYs hm
 go_enter Tryz.func7, Tryz.ntmps7
 go_wp2_with fail
 refine hsh.mono ?_
 rintro e w1 ⟨rfl, hb1⟩
 clear hsh
 have hX1 := Wn w1 (.cells #[.int .i64 5, .int .i64 0, .string X] 40)
 have hb2 := hb1.alloc hb1.size (.cells #[.int .i64 5, .int .i64 0, .string X] 40)
 have hR1 := hRX _ _ hb2 (We hX1)
 clear hRX
 go_wp2_with fail
 refine hR1.mono ?_
 rintro e w3 ⟨tv, rfl, htv, hb3⟩
 obtain ⟨tk, tnm, xk, xn, zs, KA0, kl, kc, TA, tl, tc, rfl⟩ := htv.form
 have hb4 := hb2.trans (hb3.mono hb2.size)
 have hqA : Below w3.heap.size w3 (w3.alloc (.cells #[.int .i64 tk, .string tnm, .int .i64 xk, .int .i64 xn, .string zs, .slice KA0 kl kc, .slice TA tl tc] 30)) := (Bq _ _).alloc Nr _
 have hG := Wn w3 (.cells #[.int .i64 tk, .string tnm, .int .i64 xk, .int .i64 xn, .string zs, .slice KA0 kl kc, .slice TA tl tc] 30)
 have hb5 := hb4.trans (hqA.mono hb4.size)
 have htv5 := htv.below hqA
 have hX5 := Wn (w3.alloc (.cells #[.int .i64 tk, .string tnm, .int .i64 xk, .int .i64 xn, .string zs, .slice KA0 kl kc, .slice TA tl tc] 30)) (.cells #[.int .i64 5, .int .i64 0, .string Y] 40)
 have hqB := (Bq _ (w3.alloc (.cells #[.int .i64 tk, .string tnm, .int .i64 xk, .int .i64 xn, .string zs, .slice KA0 kl kc, .slice TA tl tc] 30))).alloc Nr (.cells #[.int .i64 5, .int .i64 0, .string Y] 40)
 have hb6 := hb5.trans (hqB.mono hb5.size)
 have hR2 := hRY _ _ hb6 (We hX5)
 have hG6 := Aa hG hqB
 have htv6 := htv5.below hqB
 rw [World.size_alloc] at hR2
 clear hRY hR1 hX1 hb1 hb2 hb3 hb4 hqA htv hG hb5 htv5 hX5 hqB
 go_wp2_with fail
 refine hR2.mono ?_
 rintro e w7 ⟨tv7, rfl, htv7, hq7⟩
 obtain ⟨uk, unm, yk, yn, vs, KB0, ul, uc, UA, vl, vc, rfl⟩ := htv7.form
 have hb7 := hb6.trans (hq7.mono hb6.size)
 have hqB : Below w7.heap.size w7 (w7.alloc (.cells #[.int .i64 uk, .string unm, .int .i64 yk, .int .i64 yn, .string vs, .slice KB0 ul uc, .slice UA vl vc] 30)) := (Bq _ _).alloc Nr _
 have hH8 := Wn w7 (.cells #[.int .i64 uk, .string unm, .int .i64 yk, .int .i64 yn, .string vs, .slice KB0 ul uc, .slice UA vl vc] 30)
 have hG8 := Aa (Aa hG6 hq7) hqB
 have htv8 := (htv6.below hq7).below hqB
 have huv8 := htv7.below hqB
 have hb8 := hb7.trans (hqB.mono hb7.size)
 clear hR2 hG6 htv6 hq7 hqB hb6 hb7 htv7
 obtain ⟨g0, g1, g2, g3, g4, g5, g6, _⟩ := Ay hG8
 obtain ⟨k0, k1, k2, k3, k4, k5, k6, _⟩ := Ay hH8
 have HB8 := hid hb8
 clear hb8
 rcases HLAW.out with ⟨rfl, rfl, h1 | h1⟩ | ⟨e, he, h1, h2⟩
 ·obtain ⟨rfl, rfl, rfl⟩ : t1 = BA [t2] /\ n1 = 0 /\ e1 = 0 := by injection h1 with h1 h3; injection h3 with h3 h4; exact ⟨h1, h3, h4⟩
  obtain ⟨W8, hW8⟩ : ∃ z, w7.alloc (.cells #[.int .i64 uk, .string unm, .int .i64 yk, .int .i64 yn, .string vs, .slice KB0 ul uc, .slice UA vl vc] 30) = z := ⟨_, rfl⟩
  have hqC := (Bq _ (w7.alloc (.cells #[.int .i64 uk, .string unm, .int .i64 yk, .int .i64 yn, .string vs, .slice KB0 ul uc, .slice UA vl vc] 30))).alloc Nr (.cells #[.int .i64 uk, .string unm, .int .i64 yk, .int .i64 yn, .string vs, .slice KB0 ul uc, .slice UA vl vc] 30)
  have hC := Wn (w7.alloc (.cells #[.int .i64 uk, .string unm, .int .i64 yk, .int .i64 yn, .string vs, .slice KB0 ul uc, .slice UA vl vc] 30)) (.cells #[.int .i64 uk, .string unm, .int .i64 yk, .int .i64 yn, .string vs, .slice KB0 ul uc, .slice UA vl vc] 30)
  have hS1 := OK (BA [t2]) _ _ _ _ _ (htv8.below hqC) (Wc (c := 1) hC (huv8.below hqC)) (R6 (by simp) (fun t ht => by rw [List.mem_singleton.1 ht]; exact HSM.out))
  rw [World.size_alloc] at hS1
  have HB9 := hid (HB8.out.trans (hqC.mono HB8.out.size))
  clear hqC hC htv8 huv8 hG8 hH8 h1 hW8
  go_wp2_with fail
  refine hS1.mono ?_
  rintro e w9 ⟨rfl, hq9⟩
  have HB10 := hid (HB9.out.trans (hq9.mono HB9.out.size))
  clear hS1 hq9 g0 g1 g2 g3 g4 g5 g6 k0 k1 k2 k3 k4 k5 k6
  go_wp2
  go_ret
  exact ⟨rfl, HB10.out⟩
 ·obtain ⟨rfl, rfl⟩ : n1 = 5 /\ e1 = 73 := by injection h1 with h1 h3; exact ⟨h1, h3⟩
  clear htv8 huv8 hG8 hH8 h1
  go_wp2
  go_ret
  exact ⟨rfl, HB8.out⟩
 ·obtain ⟨rfl, rfl⟩ : n2 = 5 /\ e2 = e := by injection h1 with h1 h3; exact ⟨h1, h3⟩
  obtain ⟨rfl, rfl⟩ : n1 = 5 /\ e1 = e2 := by injection h2 with h1 h3; exact ⟨h1, h3⟩
  have hne1 : (e1 != 0) = true := by simpa using he
  have hne2 : (e1 == 0) = false := by simpa using he
  clear htv8 huv8 hG8 hH8 h1 h2 he
  go_wp2
  go_ret
  exact ⟨by simp, HB8.out⟩
end Go.Proofs.YtaogfdffgdglkaaGreatDoor
