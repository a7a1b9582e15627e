/- What is proved: a part of the walk of the program and of its plain laws; no condition beside those that each theorem names. -/
import Derived.Test.YtaogfdffgdglkaaGreatDoorYxn
import Derived.Test.YtaogfdffgdglkaaGreatDoorYxo
import Derived.Test.YtaogfdffgdglkaaGreatDoorYa
namespace Go.Proofs.YtaogfdffgdglkaaGreatDoor
open Go Go.RowKit Go.Lib
set_option linter.unusedSimpArgs false
set_option linter.unusedVariables false
section
set_option maxRecDepth 100000
set_option maxHeartbeats 8000000
namespace Bw
theorem as_nil (t : Addr) (w : World) :
   Calls Tryz.prog 43 #[.nilIface, .iface 113 (.pointer (some t))] w fun ev w' => ev = .returned (.bool false) /\ w' = w := by
 go_enter Tryz.func43, Tryz.ntmps43
 go_wp2
 go_ret
 exact ⟨rfl, rfl⟩
theorem told_nil (w : World) :
   Calls Tryz.prog 22 #[.nilIface] w fun ev w' => ev = .returned (.tuple #[.int .i64 0, .int .i64 0]) /\ Below w.heap.size w w' := by
 go_enter Tryz.func22, Tryz.ntmps22
 go_wp2_with fail
 refine (as_nil _ _).mono ?_
 rintro ev w1 ⟨rfl, hw1⟩
 subst w1
 go_wp2
 exact bodyPost_ret (v := .tuple #[.int .i64 0, .int .i64 0]) (by simp [results, Tryz.results22, go_sem]) rfl ⟨rfl, (Below.refl _ w).alloc (Nat.le_refl _) _⟩
end Bw
def Ug : BR -> BR
 | .ok _ (x :: _) => .bad x.no 92
 | r => r
def Fy (F : Nat) (es : List En) : BR := if es = [] then .ok CL [] else Ug (A8 F (-1) 1 es)
theorem Nv (F : Nat) (es : List En) : B2 F es = D3 (Fy F es) := by
 unfold B2 Fy
 split
 ·rfl
 ·cases A8 F (-1) 1 es with
  | ok t rest => cases rest <;> rfl
  | bad no e => rfl
  | out => rfl
theorem Kg {R b : Nat} (w : World) (h : CE w R b []) :
  Calls Tryz.prog 21 #[.pointer (some ⟨R, 0, none⟩)] w fun e w' => e = .returned (.tuple #[.agg #[.int .i64 0, .string ⟨#[]⟩, .int .i64 0, .int .i64 0, .string ⟨#[]⟩, .slice none 0 0, .slice none 0 0], .nilIface]) /\ Below w.heap.size w w' := by
 have hb1 : Below w.heap.size w (w.alloc (.cells #[.int .i64 0, .string ⟨#[]⟩, .int .i64 0, .int .i64 0, .string ⟨#[]⟩, .slice none 0 0, .slice none 0 0] 30)) := (Bq _ w).alloc Nr _
 have hN := Wn w (.cells #[.int .i64 0, .string ⟨#[]⟩, .int .i64 0, .int .i64 0, .string ⟨#[]⟩, .slice none 0 0, .slice none 0 0] 30)
 have hRd := h.below hb1
 obtain ⟨W1, hW1⟩ : ∃ W1, w.alloc (.cells #[.int .i64 0, .string ⟨#[]⟩, .int .i64 0, .int .i64 0, .string ⟨#[]⟩, .slice none 0 0, .slice none 0 0] 30) = W1 := ⟨_, rfl⟩
 rw [hW1] at hb1 hN hRd
 have HN := hid (Ai hN hb1)
 have hNx := Ej R b W1 hRd
 clear h hRd hN hb1
 go_enter Tryz.func21, Tryz.ntmps21
 go_wp2_with fail
 refine hNx.mono ?_
 rintro e w2 ⟨rfl, hb2⟩
 have hbW := hb2.trans (((Bq _ w2).alloc Nr (.cells #[.int .i64 0, .int .i64 0, .slice none 0 0] 107)).mono hb2.size)
 have HN4 := hid (Aa HN.out.1 hbW)
 have HB4 := hid (HN.out.2.trans (hbW.mono HN.out.2.size))
 clear hNx hb2 hbW
 obtain ⟨_, _, _, _, _, _, _, f0, f1, f2, f3, f4, f5, f6⟩ := Ay HN4.out
 go_wp2
 obtain ⟨⟨e0, e1, e2, e3, e4, e5, e6⟩, hbz, _⟩ := CM HN4.out (.int .i64 0) (.string ⟨#[]⟩) (.int .i64 0) (.int .i64 0) (.string ⟨#[]⟩) (.slice none 0 0) (.slice none 0 0) _ rfl
 refine bodyPost_ret (v := .tuple #[.agg #[.int .i64 0, .string ⟨#[]⟩, .int .i64 0, .int .i64 0, .string ⟨#[]⟩, .slice none 0 0, .slice none 0 0], .nilIface]) (by simp [results, Tryz.results21, go_sem, e0, e1, e2, e3, e4, e5, e6]) rfl ?_
 exact ⟨rfl, hbz _ _ HB4.out Nr⟩
theorem P5 {R b F : Nat} (hC : F8 R b F) (es : List En) (w : World) (h : CE w R b es) (hg : Gd es) (hF : 4 * Dw es + 2 <= F) :
  Calls Tryz.prog 21 #[.pointer (some ⟨R, 0, none⟩)] w (BZ R b (Fy F es) w) := by
 have hb1 : Below w.heap.size w (w.alloc (.cells #[.int .i64 0, .string ⟨#[]⟩, .int .i64 0, .int .i64 0, .string ⟨#[]⟩, .slice none 0 0, .slice none 0 0] 30)) := (Bq _ w).alloc Nr _
 have hN := Wn w (.cells #[.int .i64 0, .string ⟨#[]⟩, .int .i64 0, .int .i64 0, .string ⟨#[]⟩, .slice none 0 0, .slice none 0 0] 30)
 have hRd := h.below hb1
 have hlt := h.rlt
 have hbR := h.lt
 obtain ⟨W1, hW1⟩ : ∃ W1, w.alloc (.cells #[.int .i64 0, .string ⟨#[]⟩, .int .i64 0, .int .i64 0, .string ⟨#[]⟩, .slice none 0 0, .slice none 0 0] 30) = W1 := ⟨_, rfl⟩
 rw [hW1] at hb1 hN hRd
 have HN := hid (Ai hN hb1)
 have hNl : w.heap.size < W1.heap.size := (Gl hN)
 cases es with
 | nil =>
  refine (Kg w h).mono ?_
  rintro e w' ⟨rfl, hb⟩
  exact ⟨_, rfl, EB _ _, h.below hb, AB.of_below hb⟩
 | cons x r =>
  have hW : Fy F (x :: r) = Ug (A8 F (-1) 1 (x :: r)) := by unfold Fy; rw [if_neg (by simp)]
  have hNC := fun wx hx => hC (-1) 1 (x :: r) wx hx hg (by simp) (by decide) hF
  obtain ⟨rr, hrr⟩ : ∃ z, A8 F (-1) 1 (x :: r) = z := ⟨_, rfl⟩
  rw [hrr] at hW hNC
  rw [hW]
  obtain ⟨o, c, A, ca, hdh⟩ := hRd.head
  have hNx := Da R b x o _ c A ca W1 hdh (by omega)
  have HRD := hid hRd
  have HNC := hid hNC
  clear hW hdh hrr h hRd hN hb1 hg hF hC hNC
  obtain ⟨no, xc, l⟩ := x
  dsimp only at hNx
  obtain ⟨L, hL⟩ : ∃ L, l.length = L := ⟨_, rfl⟩
  rw [hL] at hNx
  clear hL
  go_enter Tryz.func21, Tryz.ntmps21
  go_wp2_with fail
  refine hNx.mono ?_
  rintro e w2 ⟨rfl, hb2⟩
  have hbW := hb2.trans (((Bq _ w2).alloc Nr (.cells #[.int .i64 no, .int .i64 xc, .slice A L ca] 107)).mono hb2.size)
  obtain ⟨w3, hw3⟩ : ∃ z, w2.alloc (.cells #[.int .i64 no, .int .i64 xc, .slice A L ca] 107) = z := ⟨_, rfl⟩
  rw [hw3] at hbW
  have hNC3 := HNC.out w3 (HRD.out.below hbW)
  have HN3 := hid (Ai (Aa HN.out.1 hbW) (HN.out.2.trans (hbW.mono HN.out.2.size)))
  have hNl3 : w.heap.size < w3.heap.size := by have := hbW.size; omega
  clear hNx hb2 hbW
  go_wp2_with fail
  refine hNC3.mono ?_
  intro e w5 hP
  clear hNC3
  cases rr with
  | out => exact hP.elim
  | bad n2 er2 =>
   obtain ⟨tv, rfl, ⟨tk, tnm, xk, xn, ys, KA0, kl, kc, TA, tl, tc, rfl⟩, ⟨es5, hr5⟩, hm5⟩ := hP
   have HF5 := hid True.intro
   have hbT := (Bq _ w5).alloc Nr (.cells #[.int .i64 tk, .string tnm, .int .i64 xk, .int .i64 xn, .string ys, .slice KA0 kl kc, .slice TA tl tc] 30)
   have hT6 := Wn w5 (.cells #[.int .i64 tk, .string tnm, .int .i64 xk, .int .i64 xn, .string ys, .slice KA0 kl kc, .slice TA tl tc] 30)
   have hN6 := Aa (hm5.heap HN3.out.1 (by omega) (by omega)) hbT
   have hR6 := hr5.below hbT
   have hM6 : AB R b w (w5.alloc (.cells #[.int .i64 tk, .string tnm, .int .i64 xk, .int .i64 xn, .string ys, .slice KA0 kl kc, .slice TA tl tc] 30)) := ((AB.of_below HN3.out.2).trans hm5).below hbT
   obtain ⟨w6, hw6⟩ : ∃ z, w5.alloc (.cells #[.int .i64 tk, .string tnm, .int .i64 xk, .int .i64 xn, .string ys, .slice KA0 kl kc, .slice TA tl tc] 30) = z := ⟨_, rfl⟩
   rw [hw6] at hbT hT6 hN6 hR6 hM6
   have hlt6 : w5.heap.size < w6.heap.size := (Gl hT6)
   have hszw5 : w3.heap.size <= w5.heap.size := hm5.size
   have HX6 := hid (Ai hbT (Ai hT6 (Ai hN6 (Ai hR6 hM6))))
   clear hr5 hm5 hbT hT6 hN6 hM6
   unfold Ci
   cases es5 with
   | nil =>
    have hNx := Ej R b w6 hR6
    clear hR6
    go_wp2_with fail
    refine hNx.mono ?_
    rintro e w7 ⟨rfl, hb7⟩
    have hbE := (Bq _ w7).alloc Nr (.cells #[.int .i64 0, .int .i64 0, .slice none 0 0] 107)
    have hE8 := Wn w7 (.cells #[.int .i64 0, .int .i64 0, .slice none 0 0] 107)
    have hb8 := hb7.trans (hbE.mono hb7.size)
    have HX8 := hid (Ai hb8 (Ai (Aa HX6.out.2.1 hb8) (Ai (Aa HX6.out.2.2.1 hb8) (Ai (HX6.out.2.2.2.1.below hb8) (HX6.out.2.2.2.2.below hb8)))))
    clear hNx hb7 hbE hb8
    obtain ⟨t0, t1, t2, t3, t4, t5, t6, _⟩ := Ay HX8.out.2.1
    obtain ⟨_, _, _, _, _, _, _, f0, f1, f2, f3, f4, f5, f6⟩ := Ay HX8.out.2.2.1
    go_wp2
    have hN11 := CW HX8.out.2.2.1 (.int .i64 tk) (.string tnm) (.int .i64 xk) (.int .i64 xn) (.string ys) (.slice KA0 kl kc) (.slice TA tl tc)
    have hT11 := CX (C := fun k => k = w.heap.size) (B := w.heap.size) (w7.alloc (.cells #[.int .i64 0, .int .i64 0, .slice none 0 0] 107)) (.int .i64 tk) (.string tnm) (.int .i64 xk) (.int .i64 xn) (.string ys) (.slice KA0 kl kc) (.slice TA tl tc) rfl
    obtain ⟨e0, e1, e2, e3, e4, e5, e6, _⟩ := Ay hN11
    refine bodyPost_ret (v := .tuple #[.agg #[.int .i64 tk, .string tnm, .int .i64 xk, .int .i64 xn, .string ys, .slice KA0 kl kc, .slice TA tl tc], .iface 105 (.agg #[.int .i64 n2, .int .i64 er2])]) (by simp [results, Tryz.results21, go_sem, e0, e1, e2, e3, e4, e5, e6, Ci]) rfl ?_
    exact ⟨_, rfl, ⟨_, _, _, _, _, _, _, _, _, _, _, rfl⟩, ⟨_, HX8.out.2.2.2.1.news hT11 (by omega) (fun k hk => by omega)⟩, HX8.out.2.2.2.2.news hT11 (fun k hk => by omega)⟩
   | cons x5 r5 =>
    obtain ⟨o2, c2, A2, ca2, hdh2⟩ := hR6.head
    have hNx := Da R b x5 o2 _ c2 A2 ca2 w6 hdh2 (by omega)
    obtain ⟨no2, xc2, l2⟩ := x5
    dsimp only at hNx
    obtain ⟨L2, hL2⟩ : ∃ L, l2.length = L := ⟨_, rfl⟩
    rw [hL2] at hNx
    clear hL2 hdh2 hR6
    go_wp2_with fail
    refine hNx.mono ?_
    rintro e w7 ⟨rfl, hb7⟩
    have hbE := (Bq _ w7).alloc Nr (.cells #[.int .i64 no2, .int .i64 xc2, .slice A2 L2 ca2] 107)
    have hE8 := Wn w7 (.cells #[.int .i64 no2, .int .i64 xc2, .slice A2 L2 ca2] 107)
    have hb8 := hb7.trans (hbE.mono hb7.size)
    obtain ⟨w8, hw8⟩ : ∃ z, w7.alloc (.cells #[.int .i64 no2, .int .i64 xc2, .slice A2 L2 ca2] 107) = z := ⟨_, rfl⟩
    rw [hw8] at hb8 hE8
    have HX8 := hid (Ai hb8 (Ai (Aa HX6.out.2.1 hb8) (Ai (Aa HX6.out.2.2.1 hb8) (Ai (HX6.out.2.2.2.1.below hb8) (HX6.out.2.2.2.2.below hb8)))))
    clear hNx hb7 hbE hb8
    obtain ⟨t0, t1, t2, t3, t4, t5, t6, _⟩ := Ay HX8.out.2.1
    obtain ⟨_, _, _, _, _, _, _, f0, f1, f2, f3, f4, f5, f6⟩ := Ay HX8.out.2.2.1
    go_wp2
    have hN11 := CW HX8.out.2.2.1 (.int .i64 tk) (.string tnm) (.int .i64 xk) (.int .i64 xn) (.string ys) (.slice KA0 kl kc) (.slice TA tl tc)
    have hT11 := CX (C := fun k => k = w.heap.size) (B := w.heap.size) w8 (.int .i64 tk) (.string tnm) (.int .i64 xk) (.int .i64 xn) (.string ys) (.slice KA0 kl kc) (.slice TA tl tc) rfl
    obtain ⟨e0, e1, e2, e3, e4, e5, e6, _⟩ := Ay hN11
    refine bodyPost_ret (v := .tuple #[.agg #[.int .i64 tk, .string tnm, .int .i64 xk, .int .i64 xn, .string ys, .slice KA0 kl kc, .slice TA tl tc], .iface 105 (.agg #[.int .i64 n2, .int .i64 er2])]) (by simp [results, Tryz.results21, go_sem, e0, e1, e2, e3, e4, e5, e6, Ci]) rfl ?_
    exact ⟨_, rfl, ⟨_, _, _, _, _, _, _, _, _, _, _, rfl⟩, ⟨_, HX8.out.2.2.2.1.news hT11 (by omega) (fun k hk => by omega)⟩, HX8.out.2.2.2.2.news hT11 (fun k hk => by omega)⟩
  | ok t rest =>
   obtain ⟨tv, rfl, htv, hr5, hm5⟩ := hP
   obtain ⟨tk, tnm, xk, xn, ys, KA0, kl, kc, TA, tl, tc, rfl⟩ := htv.form
   have HF5 := hid htv
   have hbT := (Bq _ w5).alloc Nr (.cells #[.int .i64 tk, .string tnm, .int .i64 xk, .int .i64 xn, .string ys, .slice KA0 kl kc, .slice TA tl tc] 30)
   have hT6 := Wn w5 (.cells #[.int .i64 tk, .string tnm, .int .i64 xk, .int .i64 xn, .string ys, .slice KA0 kl kc, .slice TA tl tc] 30)
   have hN6 := Aa (hm5.heap HN3.out.1 (by omega) (by omega)) hbT
   have hR6 := hr5.below hbT
   have hM6 : AB R b w (w5.alloc (.cells #[.int .i64 tk, .string tnm, .int .i64 xk, .int .i64 xn, .string ys, .slice KA0 kl kc, .slice TA tl tc] 30)) := ((AB.of_below HN3.out.2).trans hm5).below hbT
   obtain ⟨w6, hw6⟩ : ∃ z, w5.alloc (.cells #[.int .i64 tk, .string tnm, .int .i64 xk, .int .i64 xn, .string ys, .slice KA0 kl kc, .slice TA tl tc] 30) = z := ⟨_, rfl⟩
   rw [hw6] at hbT hT6 hN6 hR6 hM6
   have hlt6 : w5.heap.size < w6.heap.size := (Gl hT6)
   have hszw5 : w3.heap.size <= w5.heap.size := hm5.size
   have HX6 := hid (Ai hbT (Ai hT6 (Ai hN6 (Ai hR6 hM6))))
   clear hr5 hm5 hbT hT6 hN6 hM6
   cases rest with
   | nil =>
    have hNx := Ej R b w6 hR6
    clear hR6
    go_wp2_with fail
    refine hNx.mono ?_
    rintro e w7 ⟨rfl, hb7⟩
    have hbE := (Bq _ w7).alloc Nr (.cells #[.int .i64 0, .int .i64 0, .slice none 0 0] 107)
    have hE8 := Wn w7 (.cells #[.int .i64 0, .int .i64 0, .slice none 0 0] 107)
    have hb8 := hb7.trans (hbE.mono hb7.size)
    have HX8 := hid (Ai hb8 (Ai (Aa HX6.out.2.1 hb8) (Ai (Aa HX6.out.2.2.1 hb8) (Ai (HX6.out.2.2.2.1.below hb8) (HX6.out.2.2.2.2.below hb8)))))
    clear hNx hb7 hbE hb8
    obtain ⟨t0, t1, t2, t3, t4, t5, t6, _⟩ := Ay HX8.out.2.1
    obtain ⟨_, _, _, _, _, _, _, f0, f1, f2, f3, f4, f5, f6⟩ := Ay HX8.out.2.2.1
    go_wp2
    have hN11 := CW HX8.out.2.2.1 (.int .i64 tk) (.string tnm) (.int .i64 xk) (.int .i64 xn) (.string ys) (.slice KA0 kl kc) (.slice TA tl tc)
    have hT11 := CX (C := fun k => k = w.heap.size) (B := w.heap.size) (w7.alloc (.cells #[.int .i64 0, .int .i64 0, .slice none 0 0] 107)) (.int .i64 tk) (.string tnm) (.int .i64 xk) (.int .i64 xn) (.string ys) (.slice KA0 kl kc) (.slice TA tl tc) rfl
    obtain ⟨e0, e1, e2, e3, e4, e5, e6, _⟩ := Ay hN11
    refine bodyPost_ret (v := .tuple #[.agg #[.int .i64 tk, .string tnm, .int .i64 xk, .int .i64 xn, .string ys, .slice KA0 kl kc, .slice TA tl tc], .nilIface]) (by simp [results, Tryz.results21, go_sem, e0, e1, e2, e3, e4, e5, e6, Ci]) rfl ?_
    have htv8 := ((HF5.out.below HX6.out.1).below HX8.out.1)
    exact ⟨_, rfl, Au (fun k _ hk => by omega) _ _ (As (B4.of_turn (S := fun k => w3.heap.size <= k) hT11 (fun k hk hk2 => by omega)) _ _ htv8), HX8.out.2.2.2.1.news hT11 (by omega) (fun k hk => by omega), HX8.out.2.2.2.2.news hT11 (fun k hk => by omega)⟩
   | cons x5 r5 =>
    obtain ⟨o2, c2, A2, ca2, hdh2⟩ := hR6.head
    have hNx := Da R b x5 o2 _ c2 A2 ca2 w6 hdh2 (by omega)
    obtain ⟨no2, xc2, l2⟩ := x5
    dsimp only at hNx
    obtain ⟨L2, hL2⟩ : ∃ L, l2.length = L := ⟨_, rfl⟩
    rw [hL2] at hNx
    clear hL2 hdh2 hR6
    go_wp2_with fail
    refine hNx.mono ?_
    rintro e w7 ⟨rfl, hb7⟩
    have hbE := (Bq _ w7).alloc Nr (.cells #[.int .i64 no2, .int .i64 xc2, .slice A2 L2 ca2] 107)
    have hE8 := Wn w7 (.cells #[.int .i64 no2, .int .i64 xc2, .slice A2 L2 ca2] 107)
    have hb8 := hb7.trans (hbE.mono hb7.size)
    obtain ⟨w8, hw8⟩ : ∃ z, w7.alloc (.cells #[.int .i64 no2, .int .i64 xc2, .slice A2 L2 ca2] 107) = z := ⟨_, rfl⟩
    rw [hw8] at hb8 hE8
    have HX8 := hid (Ai hb8 (Ai (Aa HX6.out.2.1 hb8) (Ai (Aa HX6.out.2.2.1 hb8) (Ai (HX6.out.2.2.2.1.below hb8) (HX6.out.2.2.2.2.below hb8)))))
    clear hNx hb7 hbE hb8
    obtain ⟨y0, y1, y2, _⟩ := Az hE8
    have hF9 := Df no2 xc2 A2 L2 ca2 92 w8
    go_wp2_with fail
    refine hF9.mono ?_
    rintro e w9 ⟨rfl, hb9⟩
    have HX9 := hid (Ai hb9 (Ai (Aa HX8.out.2.1 hb9) (Ai (Aa HX8.out.2.2.1 hb9) (Ai (HX8.out.2.2.2.1.below hb9) (HX8.out.2.2.2.2.below hb9)))))
    clear hF9 hb9 y0 y1 y2
    unfold Ci
    obtain ⟨t0, t1, t2, t3, t4, t5, t6, _⟩ := Ay HX9.out.2.1
    obtain ⟨_, _, _, _, _, _, _, f0, f1, f2, f3, f4, f5, f6⟩ := Ay HX9.out.2.2.1
    go_wp2
    have hN11 := CW HX9.out.2.2.1 (.int .i64 tk) (.string tnm) (.int .i64 xk) (.int .i64 xn) (.string ys) (.slice KA0 kl kc) (.slice TA tl tc)
    have hT11 := CX (C := fun k => k = w.heap.size) (B := w.heap.size) w9 (.int .i64 tk) (.string tnm) (.int .i64 xk) (.int .i64 xn) (.string ys) (.slice KA0 kl kc) (.slice TA tl tc) rfl
    obtain ⟨e0, e1, e2, e3, e4, e5, e6, _⟩ := Ay hN11
    refine bodyPost_ret (v := .tuple #[.agg #[.int .i64 tk, .string tnm, .int .i64 xk, .int .i64 xn, .string ys, .slice KA0 kl kc, .slice TA tl tc], .iface 105 (.agg #[.int .i64 no2, .int .i64 92])]) (by simp [results, Tryz.results21, go_sem, e0, e1, e2, e3, e4, e5, e6, Ci]) rfl ?_
    exact ⟨_, rfl, ⟨_, _, _, _, _, _, _, _, _, _, _, rfl⟩, ⟨_, HX9.out.2.2.2.1.news hT11 (by omega) (fun k hk => by omega)⟩, HX9.out.2.2.2.2.news hT11 (fun k hk => by omega)⟩
theorem OL : ∀ evs : List Si, (evs.flatMap Dg).length = evs.length * 3
 | [] => rfl
 | y :: r => by rw [List.flatMap_cons, List.length_append, OL r]; simp [Dg]; omega
theorem Sq {W : World} {R g : Nat} {evs : List Si} (hev : ∀ y ∈ evs, DF W R g y.1.l y.2) (hc : ∀ j u, (evs.flatMap Dg)[j]? = some u -> W.cell? ⟨g, j, none⟩ = some u) (hf : ∀ j, W.frozen? ⟨g, j, none⟩ = false) :
  ∀ (suf pre : List Si), evs = pre ++ suf -> Eg W R g (some ⟨g, 0, none⟩) pre.length (suf.map Prod.fst)
 | [], _, _ => trivial
 | y :: r, pre, h => by
  have hl := OL pre
  have hat : ∀ j u, (Dg y)[j]? = some u -> W.cell? ⟨g, 0 + pre.length * 3 + j, none⟩ = some u := fun j u hu => by
   refine hc _ _ ?_
   rw [h, List.flatMap_append, List.getElem?_append_right (by omega), List.flatMap_cons, show 0 + pre.length * 3 + j - (pre.flatMap Dg).length = j by omega]
   rw [List.getElem?_append_left (List.getElem?_eq_some_iff.1 hu).1]
   exact hu
  have hr := Sq hev hc hf r (pre ++ [y]) (by rw [h, List.append_assoc]; rfl)
  rw [List.length_append] at hr
  exact ⟨⟨0, y.2, rfl, hev y (by rw [h]; simp), hat 0 _ rfl, hat 1 _ rfl, hat 2 _ rfl, hf _, hf _, hf _⟩, hr⟩
theorem V5 {w W2 W3 : World} {u : Value} {evs : List Si} {R B : Nat} (hT : Bz w) (hE : Cb w) (hbl : Below w.heap.size w W2) (hown : W2.ownsRow B 107 3 u evs.length (evs.flatMap Dg)) (hB : w.heap.size <= B) (hev : TO W2 (J6 B u) evs)
  (h23 : Below W2.heap.size W2 W3) (hR : W3.heap[R]? = some (.cells #[u] 59)) (hRs : W2.heap.size <= R) (hwR : w.heap.size < R) : ∃ b, w.heap.size <= b /\ (evs ≠ [] -> B <= b /\ b < W2.heap.size) /\ CE W3 R b (evs.map Prod.fst) := by
 have htab : ∀ b, w.heap.size <= b -> JE b W3 := fun b hb => ⟨w, hT, hE, hb, hbl.trans (h23.mono hbl.size)⟩
 rcases hown.2 with ⟨rfl, h0⟩ | ⟨g, cap, cur, rfl, hg, hh, hn1, hn2, hn3, hn4⟩
 ·have : evs = [] := List.eq_nil_of_length_eq_zero h0
  subst this
  exact ⟨w.heap.size, Nat.le_refl _, fun h => absurd rfl h, hwR, htab _ Nr, none, 0, Nat.le_refl _, hR, trivial⟩
 ·have hgl : g < W2.heap.size := (Gl hh)
  have hh3 := Aa hh h23
  refine ⟨g, by omega, fun _ => ⟨hg, hgl⟩, by omega, htab g (by omega), some ⟨g, 0, none⟩, cap, by rw [List.length_map]; exact hn1, by rw [List.length_map]; exact hR, ?_⟩
  refine Sq (evs := evs) (fun y hy => ?_) (fun j x hj => ?_) (fun j => ?_) evs [] rfl
  ·obtain ⟨A, c, hv, hc, ht, hf⟩ := hev y hy
   refine ⟨A, c, hv, hc, ht.below h23, fun b o l c2 e hl => ?_⟩
   have h1 := hf b o l c2 e hl
   obtain ⟨A', c', hv', ht'⟩ := ht
   have e2 : y.1.l.length = l := by rw [hv] at e; injection e
   obtain ⟨bb, oo, ha, hlt, _⟩ := ht' 0 (by omega)
   have : bb = b := by
    rw [hv'] at e; injection e with e _ _
    rw [ha] at e; injection e with e; injection e
   refine ⟨by omega, fun e => h1.2 (by rw [e]; rfl)⟩
  ·rw [cell_of_row W3 g j cur 107 (0, 0) hh3]
   rw [<- hn4, List.getElem?_take] at hj
   split at hj
   ·rw [Array.getElem?_toList] at hj; exact hj
   ·cases hj
  ·simp [World.frozen?, hh3]
theorem PT {F : Nat} {es : List En} : ∀ t rest, Fy F es = .ok t rest -> rest = [] := by
 intro t rest h
 unfold Fy at h
 split at h
 ·injection h with _ h; exact h.symm
 ·cases hn : A8 F (-1) 1 es with
  | ok t' rest' =>
   rw [hn] at h
   cases rest' with
   | nil => injection h with _ h; exact h.symm
   | cons x r => cases h
  | bad no e => rw [hn] at h; cases h
  | out => rw [hn] at h; cases h
def NJ (r : Tr × Int × Int) (w : World) (e : Ending) (w' : World) : Prop := ∃ tv, e = .returned (.tuple #[tv, .int .i64 r.2.1, .int .i64 r.2.2]) /\ Ao w' (fun k => w.heap.size <= k) r.1 tv /\ Below w.heap.size w w'
theorem Qp (F : Nat) (hF1 : F <= 1000000) (v : Value) (xs : List Sc) (w : World) (hx : Cy w v xs) (hl : xs.length <= 1000000) (hs : ∀ x ∈ xs, x.str.size <= 100000) (hF : ∀ es, C7 (xs.map B7) = .ok es -> 4 * Dw es + 2 <= F) (hT : Bz w) (hE : Cb w) :
  Calls Tryz.prog 12 #[v] w (NJ (AL F (xs.map B7)) w) := by
 have hb1 : Below w.heap.size w (w.alloc (.cells #[.int .i64 0, .string ⟨#[]⟩, .int .i64 0, .int .i64 0, .string ⟨#[]⟩, .slice none 0 0, .slice none 0 0] 30)) := (Bq _ w).alloc Nr _
 have hN := Wn w (.cells #[.int .i64 0, .string ⟨#[]⟩, .int .i64 0, .int .i64 0, .string ⟨#[]⟩, .slice none 0 0, .slice none 0 0] 30)
 have hOf := UF v xs _ (hx.below hb1) hl hs (hT.below hb1) (hE.below hb1)
 obtain ⟨W1, hW1⟩ : ∃ W1, w.alloc (.cells #[.int .i64 0, .string ⟨#[]⟩, .int .i64 0, .int .i64 0, .string ⟨#[]⟩, .slice none 0 0, .slice none 0 0] 30) = W1 := ⟨_, rfl⟩
 rw [hW1] at hb1 hN hOf
 have HN := hid (Ai hN hb1)
 have hNl : w.heap.size < W1.heap.size := (Gl hN)
 have HG := hid (fun es h => N3 (l := xs.map B7) (es := es) h)
 have hRB : AL F (xs.map B7) = match Lq (xs.map B7) with | .ok es => B2 F es | .bad no e => (CL, no, e) := rfl
 have HOB := hid (fun (es : List En) (h : Lq (xs.map B7) = .ok es) => (show C7 (xs.map B7) = .ok es /\ ∀ x ∈ xs.map B7, x.s.length <= 100000 /\ 0 <= x.ind /\ x.ind <= 8000 by
  unfold Lq at h
  split at h
  ·rename_i ha
   refine ⟨h, fun x hx => ?_⟩
   have h1 := List.all_eq_true.1 ha x hx
   obtain ⟨y, hy, rfl⟩ := List.mem_map.1 hx
   have h2 := hs y hy
   unfold GB at h1
   simp at h1
   exact ⟨by show y.str.data.toList.length <= 100000; rw [<- Lib.size_eq]; exact h2, h1⟩
  ·cases h))
 obtain ⟨ro, hro⟩ : ∃ z, Lq (xs.map B7) = z := ⟨_, rfl⟩
 rw [hro] at hOf hRB HOB
 have HF := hid hF
 have HTE := hid (Ai hT hE)
 rw [hRB]
 clear hN hb1 hx hl hs hF hT hE hro hRB
 go_enter Tryz.func12, Tryz.ntmps12
 go_wp2_with fail
 refine hOf.mono ?_
 rintro e w2 ⟨hb2, hpost⟩
 clear hOf
 cases ro with
 | bad no er =>
  obtain rfl := hpost
  unfold Ci
  obtain ⟨_, _, _, _, _, _, _, g0, g1, g2, g3, g4, g5, g6⟩ := Ay (Wn w2 (.cells #[.int .i64 0, .string ⟨#[]⟩, .int .i64 0, .int .i64 0, .string ⟨#[]⟩, .slice none 0 0, .slice none 0 0] 30))
  go_wp2_with fail
  have hM := Wn w2 (.cells #[.int .i64 0, .string ⟨#[]⟩, .int .i64 0, .int .i64 0, .string ⟨#[]⟩, .slice none 0 0, .slice none 0 0] 30)
  have hbM := hb2.trans (((Bq _ w2).alloc Nr (.cells #[.int .i64 0, .string ⟨#[]⟩, .int .i64 0, .int .i64 0, .string ⟨#[]⟩, .slice none 0 0, .slice none 0 0] 30)).mono hb2.size)
  have hT3 := HTE.out.2.below (HN.out.2.trans (hbM.mono HN.out.2.size))
  refine (Go.Proofs.YtaogfdffgdglkaaGreatDoor.Bw.told_any no er _ hT3).mono ?_
  rintro e w4 ⟨rfl, hb4⟩
  have HX4 := hid (Ai (Aa (Aa HN.out.1 hbM) hb4) (Ai (Aa hM hb4) ((HN.out.2.trans (hbM.mono HN.out.2.size)).trans (hb4.mono (HN.out.2.trans (hbM.mono HN.out.2.size)).size))))
  clear hM hbM hT3 hb4 g0 g1 g2 g3 g4 g5 g6 hW1
  obtain ⟨t0, t1, t2, t3, t4, t5, t6, _⟩ := Ay HX4.out.2.1
  obtain ⟨_, _, _, _, _, _, _, f0, f1, f2, f3, f4, f5, f6⟩ := Ay HX4.out.1
  go_wp2
  obtain ⟨⟨e0, e1, e2, e3, e4, e5, e6⟩, hbz, _⟩ := CM HX4.out.1 (.int .i64 0) (.string ⟨#[]⟩) (.int .i64 0) (.int .i64 0) (.string ⟨#[]⟩) (.slice none 0 0) (.slice none 0 0) _ rfl
  refine bodyPost_ret (v := .tuple #[.agg #[.int .i64 0, .string ⟨#[]⟩, .int .i64 0, .int .i64 0, .string ⟨#[]⟩, .slice none 0 0, .slice none 0 0], .int .i64 no, .int .i64 er]) (by simp [results, Tryz.results12, go_sem, e0, e1, e2, e3, e4, e5, e6]) rfl ?_
  exact ⟨_, rfl, EB _ _, hbz _ _ HX4.out.2.2 Nr⟩
 | ok es =>
  obtain ⟨u, evs, rfl, rfl, hown, hev⟩ := hpost
  obtain ⟨A9, c9, rfl, _⟩ := AE hown
  obtain ⟨_, _, _, _, _, _, _, g0, g1, g2, g3, g4, g5, g6⟩ := Ay (Wn w2 (.cells #[.int .i64 0, .string ⟨#[]⟩, .int .i64 0, .int .i64 0, .string ⟨#[]⟩, .slice none 0 0, .slice none 0 0] 30))
  go_wp2_with fail
  have hb4 : Below w2.heap.size w2 ((w2.alloc (.cells #[.int .i64 0, .string ⟨#[]⟩, .int .i64 0, .int .i64 0, .string ⟨#[]⟩, .slice none 0 0, .slice none 0 0] 30)).alloc (.cells #[.slice A9 evs.length c9] 59)) := ((Bq _ w2).alloc Nr _).alloc (by simp) _
  have hRc : ((w2.alloc (.cells #[.int .i64 0, .string ⟨#[]⟩, .int .i64 0, .int .i64 0, .string ⟨#[]⟩, .slice none 0 0, .slice none 0 0] 30)).alloc (.cells #[.slice A9 evs.length c9] 59)).heap[w2.heap.size + 1]? = some (.cells #[.slice A9 evs.length c9] 59) := by have := Wn (w2.alloc (.cells #[.int .i64 0, .string ⟨#[]⟩, .int .i64 0, .int .i64 0, .string ⟨#[]⟩, .slice none 0 0, .slice none 0 0] 30)) (.cells #[.slice A9 evs.length c9] 59); rw [World.size_alloc] at this; exact this
  have hM := Aa (Wn w2 (.cells #[.int .i64 0, .string ⟨#[]⟩, .int .i64 0, .int .i64 0, .string ⟨#[]⟩, .slice none 0 0, .slice none 0 0] 30)) ((Bq _ (w2.alloc (.cells #[.int .i64 0, .string ⟨#[]⟩, .int .i64 0, .int .i64 0, .string ⟨#[]⟩, .slice none 0 0, .slice none 0 0] 30))).alloc Nr (.cells #[.slice A9 evs.length c9] 59))
  have hbw := HN.out.2.trans (hb2.mono HN.out.2.size)
  have hsz2 : W1.heap.size <= w2.heap.size := hb2.size
  obtain ⟨b, hbb, hbq, hrd⟩ := V5 (B := W1.heap.size) HTE.out.1 HTE.out.2 hbw hown (by omega) hev hb4 hRc (by omega) (by omega)
  have hbw4 := hbw.trans (hb4.mono hbw.size)
  have hN4 := Aa (Aa HN.out.1 hb2) hb4
  obtain ⟨W4, hW4⟩ : ∃ z, (w2.alloc (.cells #[.int .i64 0, .string ⟨#[]⟩, .int .i64 0, .int .i64 0, .string ⟨#[]⟩, .slice none 0 0, .slice none 0 0] 30)).alloc (.cells #[.slice A9 evs.length c9] 59) = z := ⟨_, rfl⟩
  rw [hW4] at hRc hM hrd hbw4 hN4
  have hsz4 : W4.heap.size = w2.heap.size + 1 + 1 := by rw [<- hW4]; simp
  have HX4 := hid (Ai hM (Ai hN4 hbw4))
  by_cases hev0 : evs = []
  ·subst hev0
   have hWh := Kg W4 hrd
   clear hb4 hRc hM hbw hrd hbw4 hN4 hown hev HOB HF HG hbq
   rw [hW4]
   refine hWh.mono ?_
   rintro e w5 ⟨rfl, hb5⟩
   have HX5 := hid (Ai (Aa HX4.out.1 hb5) (Ai (Aa HX4.out.2.1 hb5) (HX4.out.2.2.trans (hb5.mono HX4.out.2.2.size))))
   clear hWh hW4 hb5 g0 g1 g2 g3 g4 g5 g6
   obtain ⟨_, _, _, _, _, _, _, g0, g1, g2, g3, g4, g5, g6⟩ := Ay HX5.out.1
   go_wp2_with fail
   have hh0 := HX5.out.1
   have hh1 := CW hh0 (.int .i64 0) (.string ⟨#[]⟩) (.int .i64 0) (.int .i64 0) (.string ⟨#[]⟩) (.slice none 0 0) (.slice none 0 0)
   have tt1 := CX (C := fun k => k = w2.heap.size) (B := w.heap.size) w5 (.int .i64 0) (.string ⟨#[]⟩) (.int .i64 0) (.int .i64 0) (.string ⟨#[]⟩) (.slice none 0 0) (.slice none 0 0) rfl
   have tA := tt1
   have hN6 := tA.heap HX5.out.2.1 (by omega) rfl
   have hB6 := Af.below tA HX5.out.2.2 (fun k hk => by omega) Nr Nr
   obtain ⟨w6, hw6⟩ : ∃ z, (((((((w5.setCell ⟨w2.heap.size, 0, none⟩ (.int .i64 0)).setCell ⟨w2.heap.size, 1, none⟩ (.string ⟨#[]⟩)).setCell ⟨w2.heap.size, 2, none⟩ (.int .i64 0)).setCell ⟨w2.heap.size, 3, none⟩ (.int .i64 0)).setCell ⟨w2.heap.size, 4, none⟩ (.string ⟨#[]⟩)).setCell ⟨w2.heap.size, 5, none⟩ (.slice none 0 0)).setCell ⟨w2.heap.size, 6, none⟩ (.slice none 0 0)) = z := ⟨_, rfl⟩
   rw [hw6] at hh1 tA hN6 hB6 |-
   refine (Go.Proofs.YtaogfdffgdglkaaGreatDoor.Bw.told_nil w6).mono ?_
   rintro e w7 ⟨rfl, hb7⟩
   have HX7 := hid (Ai (Aa hh1 hb7) (Ai (Aa hN6 hb7) (hB6.trans (hb7.mono hB6.size))))
   have HT6 := hid (Ai tA hb7)
   clear tA hN6 hB6 hb7 g0 g1 g2 g3 g4 g5 g6 hw6 hh0 hh1 tt1
   obtain ⟨t0, t1, t2, t3, t4, t5, t6, _⟩ := Ay HX7.out.1
   obtain ⟨_, _, _, _, _, _, _, f0, f1, f2, f3, f4, f5, f6⟩ := Ay HX7.out.2.1
   go_wp2
   have hN8 := CW HX7.out.2.1 (.int .i64 0) (.string ⟨#[]⟩) (.int .i64 0) (.int .i64 0) (.string ⟨#[]⟩) (.slice none 0 0) (.slice none 0 0)
   have hT8 := CX (C := fun k => k = w.heap.size) (B := w.heap.size) w7 (.int .i64 0) (.string ⟨#[]⟩) (.int .i64 0) (.int .i64 0) (.string ⟨#[]⟩) (.slice none 0 0) (.slice none 0 0) rfl
   obtain ⟨e0, e1, e2, e3, e4, e5, e6, _⟩ := Ay hN8
   refine bodyPost_ret (v := .tuple #[.agg #[.int .i64 0, .string ⟨#[]⟩, .int .i64 0, .int .i64 0, .string ⟨#[]⟩, .slice none 0 0, .slice none 0 0], .int .i64 0, .int .i64 0]) (by simp [results, Tryz.results12, go_sem, e0, e1, e2, e3, e4, e5, e6]) rfl ?_
   have hB8 := Af.below hT8 HX7.out.2.2 (fun k hk => by omega) Nr Nr
   exact ⟨_, rfl, EB _ _, hB8⟩
  ·have hbq2 := hbq hev0
   have hbM : w2.heap.size ≠ b /\ w.heap.size ≠ b := by omega
   obtain ⟨es, hes⟩ : ∃ z, evs.map Prod.fst = z := ⟨_, rfl⟩
   have HOB2 := hid (HOB.out _ rfl)
   rw [hes] at hrd HOB2
   have hWh := P5 (J2 (w2.heap.size + 1) b F hF1 F Nr) es W4 hrd (HG.out es HOB2.out.1 HOB2.out.2).1 (HF.out es HOB2.out.1)
   have hrest := @PT F es
   have hfin := Nv F es
   obtain ⟨rr, hrr⟩ : ∃ z, Fy F es = z := ⟨_, rfl⟩
   rw [hrr] at hWh hrest hfin
   have HREST := hid hrest
   have HFIN := hid (show B2 F (evs.map Prod.fst) = D3 rr by rw [hes]; exact hfin)
   clear hb4 hRc hM hbw hrd hbw4 hN4 hrr hrest hown hev hes g0 g1 g2 g3 g4 g5 g6 HOB HF HG HOB2 hfin hbq hbq2
   rw [hW4]
   refine hWh.mono ?_
   intro e w5 hP
   clear hWh hW4
   cases rr with
   | out => exact hP.elim
   | bad no er =>
    obtain ⟨tv, rfl, ⟨tk, tnm, xk, xn, ys, KA0, kl, kc, TA, tl, tc, rfl⟩, ⟨es5, hr5⟩, hm5⟩ := hP
    have hM5 := hm5.heap HX4.out.1 (by omega) (by omega)
    have hN5 := hm5.heap HX4.out.2.1 (by omega) (by omega)
    have hB5 : Below w.heap.size w w5 := Af.below hm5 HX4.out.2.2 (fun k hk => by omega) HX4.out.2.2.size Nr
    have hs5 : W4.heap.size <= w5.heap.size := hm5.size
    have HX5 := hid (Ai hM5 (Ai hN5 hB5))
    clear hM5 hN5 hB5 hm5 hr5
    unfold Ci
    obtain ⟨_, _, _, _, _, _, _, g0, g1, g2, g3, g4, g5, g6⟩ := Ay HX5.out.1
    go_wp2_with fail
    have hh0 := HX5.out.1
    have hh1 := CW hh0 (.int .i64 tk) (.string tnm) (.int .i64 xk) (.int .i64 xn) (.string ys) (.slice KA0 kl kc) (.slice TA tl tc)
    have tt1 := CX (C := fun k => k = w2.heap.size) (B := w.heap.size) w5 (.int .i64 tk) (.string tnm) (.int .i64 xk) (.int .i64 xn) (.string ys) (.slice KA0 kl kc) (.slice TA tl tc) rfl
    have hh2 := CW hh1 (.int .i64 0) (.string ⟨#[]⟩) (.int .i64 0) (.int .i64 0) (.string ⟨#[]⟩) (.slice none 0 0) (.slice none 0 0)
    have tt2 := CX (C := fun k => k = w2.heap.size) (B := w.heap.size) (((((((w5.setCell ⟨w2.heap.size, 0, none⟩ (.int .i64 tk)).setCell ⟨w2.heap.size, 1, none⟩ (.string tnm)).setCell ⟨w2.heap.size, 2, none⟩ (.int .i64 xk)).setCell ⟨w2.heap.size, 3, none⟩ (.int .i64 xn)).setCell ⟨w2.heap.size, 4, none⟩ (.string ys)).setCell ⟨w2.heap.size, 5, none⟩ (.slice KA0 kl kc)).setCell ⟨w2.heap.size, 6, none⟩ (.slice TA tl tc)) (.int .i64 0) (.string ⟨#[]⟩) (.int .i64 0) (.int .i64 0) (.string ⟨#[]⟩) (.slice none 0 0) (.slice none 0 0) rfl
    have tA := tt1.trans tt2
    have hN6 := tA.heap HX5.out.2.1 (by omega) rfl
    have hB6 := Af.below tA HX5.out.2.2 (fun k hk => by omega) Nr Nr
    obtain ⟨w6, hw6⟩ : ∃ z, ((((((((((((((w5.setCell ⟨w2.heap.size, 0, none⟩ (.int .i64 tk)).setCell ⟨w2.heap.size, 1, none⟩ (.string tnm)).setCell ⟨w2.heap.size, 2, none⟩ (.int .i64 xk)).setCell ⟨w2.heap.size, 3, none⟩ (.int .i64 xn)).setCell ⟨w2.heap.size, 4, none⟩ (.string ys)).setCell ⟨w2.heap.size, 5, none⟩ (.slice KA0 kl kc)).setCell ⟨w2.heap.size, 6, none⟩ (.slice TA tl tc)).setCell ⟨w2.heap.size, 0, none⟩ (.int .i64 0)).setCell ⟨w2.heap.size, 1, none⟩ (.string ⟨#[]⟩)).setCell ⟨w2.heap.size, 2, none⟩ (.int .i64 0)).setCell ⟨w2.heap.size, 3, none⟩ (.int .i64 0)).setCell ⟨w2.heap.size, 4, none⟩ (.string ⟨#[]⟩)).setCell ⟨w2.heap.size, 5, none⟩ (.slice none 0 0)).setCell ⟨w2.heap.size, 6, none⟩ (.slice none 0 0)) = z := ⟨_, rfl⟩
    rw [hw6] at hh2 tA hN6 hB6 |-
    refine (Go.Proofs.YtaogfdffgdglkaaGreatDoor.Bw.told_any no er w6 (HTE.out.2.below hB6)).mono ?_
    rintro e w7 ⟨rfl, hb7⟩
    have HX7 := hid (Ai (Aa hh2 hb7) (Ai (Aa hN6 hb7) (hB6.trans (hb7.mono hB6.size))))
    have HT6 := hid (Ai tA hb7)
    clear tA hN6 hB6 hb7 g0 g1 g2 g3 g4 g5 g6 hw6 hh0 hh1 tt1 hh2 tt2
    obtain ⟨t0, t1, t2, t3, t4, t5, t6, _⟩ := Ay HX7.out.1
    obtain ⟨_, _, _, _, _, _, _, f0, f1, f2, f3, f4, f5, f6⟩ := Ay HX7.out.2.1
    go_wp2
    have hN8 := CW HX7.out.2.1 (.int .i64 0) (.string ⟨#[]⟩) (.int .i64 0) (.int .i64 0) (.string ⟨#[]⟩) (.slice none 0 0) (.slice none 0 0)
    have hT8 := CX (C := fun k => k = w.heap.size) (B := w.heap.size) w7 (.int .i64 0) (.string ⟨#[]⟩) (.int .i64 0) (.int .i64 0) (.string ⟨#[]⟩) (.slice none 0 0) (.slice none 0 0) rfl
    obtain ⟨e0, e1, e2, e3, e4, e5, e6, _⟩ := Ay hN8
    refine bodyPost_ret (v := .tuple #[.agg #[.int .i64 0, .string ⟨#[]⟩, .int .i64 0, .int .i64 0, .string ⟨#[]⟩, .slice none 0 0, .slice none 0 0], .int .i64 no, .int .i64 er]) (by simp [results, Tryz.results12, go_sem, e0, e1, e2, e3, e4, e5, e6]) rfl ?_
    have hB8 := Af.below hT8 HX7.out.2.2 (fun k hk => by omega) Nr Nr
    show NJ (B2 F (evs.map Prod.fst)) w _ _
    rw [HFIN.out]
    exact ⟨_, rfl, EB _ _, hB8⟩
   | ok t rest =>
    obtain ⟨tv, rfl, htv, hr5, hm5⟩ := hP
    obtain ⟨tk, tnm, xk, xn, ys, KA0, kl, kc, TA, tl, tc, rfl⟩ := htv.form
    obtain rfl := HREST.out t rest rfl
    have HTV := hid htv
    have hM5 := hm5.heap HX4.out.1 (by omega) (by omega)
    have hN5 := hm5.heap HX4.out.2.1 (by omega) (by omega)
    have hB5 : Below w.heap.size w w5 := Af.below hm5 HX4.out.2.2 (fun k hk => by omega) HX4.out.2.2.size Nr
    have hs5 : W4.heap.size <= w5.heap.size := hm5.size
    have HX5 := hid (Ai hM5 (Ai hN5 hB5))
    clear hM5 hN5 hB5 hm5 hr5
    obtain ⟨_, _, _, _, _, _, _, g0, g1, g2, g3, g4, g5, g6⟩ := Ay HX5.out.1
    go_wp2_with fail
    have hh0 := HX5.out.1
    have hh1 := CW hh0 (.int .i64 tk) (.string tnm) (.int .i64 xk) (.int .i64 xn) (.string ys) (.slice KA0 kl kc) (.slice TA tl tc)
    have tt1 := CX (C := fun k => k = w2.heap.size) (B := w.heap.size) w5 (.int .i64 tk) (.string tnm) (.int .i64 xk) (.int .i64 xn) (.string ys) (.slice KA0 kl kc) (.slice TA tl tc) rfl
    have tA := tt1
    have hN6 := tA.heap HX5.out.2.1 (by omega) rfl
    have hB6 := Af.below tA HX5.out.2.2 (fun k hk => by omega) Nr Nr
    obtain ⟨w6, hw6⟩ : ∃ z, (((((((w5.setCell ⟨w2.heap.size, 0, none⟩ (.int .i64 tk)).setCell ⟨w2.heap.size, 1, none⟩ (.string tnm)).setCell ⟨w2.heap.size, 2, none⟩ (.int .i64 xk)).setCell ⟨w2.heap.size, 3, none⟩ (.int .i64 xn)).setCell ⟨w2.heap.size, 4, none⟩ (.string ys)).setCell ⟨w2.heap.size, 5, none⟩ (.slice KA0 kl kc)).setCell ⟨w2.heap.size, 6, none⟩ (.slice TA tl tc)) = z := ⟨_, rfl⟩
    rw [hw6] at hh1 tA hN6 hB6 |-
    refine (Go.Proofs.YtaogfdffgdglkaaGreatDoor.Bw.told_nil w6).mono ?_
    rintro e w7 ⟨rfl, hb7⟩
    have HX7 := hid (Ai (Aa hh1 hb7) (Ai (Aa hN6 hb7) (hB6.trans (hb7.mono hB6.size))))
    have HT6 := hid (Ai tA hb7)
    clear tA hN6 hB6 hb7 g0 g1 g2 g3 g4 g5 g6 hw6 hh0 hh1 tt1
    obtain ⟨t0, t1, t2, t3, t4, t5, t6, _⟩ := Ay HX7.out.1
    obtain ⟨_, _, _, _, _, _, _, f0, f1, f2, f3, f4, f5, f6⟩ := Ay HX7.out.2.1
    go_wp2
    have hN8 := CW HX7.out.2.1 (.int .i64 tk) (.string tnm) (.int .i64 xk) (.int .i64 xn) (.string ys) (.slice KA0 kl kc) (.slice TA tl tc)
    have hT8 := CX (C := fun k => k = w.heap.size) (B := w.heap.size) w7 (.int .i64 tk) (.string tnm) (.int .i64 xk) (.int .i64 xn) (.string ys) (.slice KA0 kl kc) (.slice TA tl tc) rfl
    obtain ⟨e0, e1, e2, e3, e4, e5, e6, _⟩ := Ay hN8
    refine bodyPost_ret (v := .tuple #[.agg #[.int .i64 tk, .string tnm, .int .i64 xk, .int .i64 xn, .string ys, .slice KA0 kl kc, .slice TA tl tc], .int .i64 0, .int .i64 0]) (by simp [results, Tryz.results12, go_sem, e0, e1, e2, e3, e4, e5, e6]) rfl ?_
    have hB8 := Af.below hT8 HX7.out.2.2 (fun k hk => by omega) Nr Nr
    show NJ (B2 F (evs.map Prod.fst)) w _ _
    rw [HFIN.out]
    have hw6 := B4.of_turn (S := fun k => W4.heap.size <= k) HT6.out.1 (fun k hk hk2 => by omega)
    have hw8 := B4.of_turn (S := fun k => W4.heap.size <= k) hT8 (fun k hk hk2 => by have := HX4.out.2.2.size; omega)
    refine ⟨_, rfl, Au (fun k _ hk => by have := HX4.out.2.2.size; omega) _ _ (As hw8 _ _ ((As hw6 _ _ HTV.out).below HT6.out.2)), hB8⟩
end
end Go.Proofs.YtaogfdffgdglkaaGreatDoor
