/- What is proved: a part of the walk of the program and of its plain laws; no condition beside those that each theorem names. -/
import Derived.Test.YtaogfdffgdglkaaGreatDoorYxd
import Derived.Test.YtaogfdffgdglkaaGreatDoorYa
namespace Go.Proofs.YtaogfdffgdglkaaGreatDoor
open Go Go.RowKit Go.Lib
set_option linter.unusedSimpArgs false
set_option linter.unusedVariables false
section
set_option maxRecDepth 100000
set_option maxHeartbeats 8000000
theorem DF.tail {w : World} {R b : Nat} {a o ca L : Nat} {l : List AV} (h : DF w R b l (.slice (some ⟨a, o, none⟩) L ca)) (h2 : 2 <= l.length) : DF w R b l.tail (.slice (some ⟨a, o + 3, none⟩) (L - 1) (ca - 1)) := by
 obtain ⟨A, c, hv, hc, ht, hf⟩ := h
 injection hv with e1 e2 e3
 subst e1 e2 e3
 have hl : l.tail.length = l.length - 1 := List.length_tail
 refine ⟨some ⟨a, o + 3, none⟩, ca - 1, by rw [hl], by omega, ?_, fun bb oo l2 c2 e h0 => ?_⟩
 ·have := ht.drop (q := 1) (by omega) (ca - 1)
  rw [List.drop_one] at this
  simpa using this
 ·injection e with e1
  injection e1 with e1
  injection e1 with e1 _
  exact hf bb o _ _ (by rw [e1]) (by omega)
theorem VJ {w : World} {R b : Nat} {l : List AV} {v : Value} (h : DF w R b l v) (h2 : 2 <= l.length) : ∃ a o, (∃ L ca, v = .slice (some ⟨a, o, none⟩) L ca) /\ a < R /\ a ≠ b /\ w.cell? ⟨a, o + 2, none⟩ = some (.int .i64 (l.getD 0 EK).at_) /\ w.cell? ⟨a, o + 3 + 2, none⟩ = some (.int .i64 (l.getD 1 EK).at_) := by
 obtain ⟨A, c, hv, hc, ⟨A', c', hv', ht⟩, hf⟩ := h
 obtain ⟨a, o, ha, _, _, _, g0⟩ := ht 0 (by omega)
 obtain ⟨a2, o2, ha2, _, _, _, g1⟩ := ht 1 (by omega)
 rw [ha] at ha2
 injection ha2 with ha2
 injection ha2 with e1 e2
 subst e1 e2
 have hab := hf a o _ c' (by rw [hv', ha]) (by omega)
 exact ⟨a, o, ⟨_, c', by rw [hv', ha]⟩, hab.1, hab.2, by simpa [EK] using g0, by simpa [EK] using g1⟩
theorem TM {R b n : Nat} (hB : Jh R b n) (hC : F8 R b n) (x : En) (r : List En) (A : Option Addr) (ca d : Nat) (w : World) (h : CE w R b (x :: r)) (hy : DF w R b x.l (.slice A x.l.length ca)) (hg : Gd (x :: r)) (hd : d <= 1000) (hn : 4 * Dw (x :: r) <= n + 1) :
  Calls Tryz.prog 107 #[.pointer (some ⟨R, 0, none⟩), .agg #[.int .i64 x.no, .int .i64 x.col, .slice A x.l.length ca], .int .i64 d] w (BZ R b (AQ (n + 1) d x r) w) := by
 obtain ⟨hb1, hs1, hX, hN⟩ := EI w (.int .i64 x.no) (.int .i64 x.col) (.slice A x.l.length ca)
 have HX := hid (Ai hX (Ai hN hb1))
 have hlt := h.rlt
 have hbR := h.lt
 have hgx := hg x List.mem_cons_self
 have hxl : 1 <= x.l.length := List.length_pos_iff.2 hgx.ne
 have hV : AQ (n + 1) d x r = if x.l.length = 1 then Ap n x.no x.col d r else A8 n x.col d (Ca x :: r) := by rw [AQ]
 obtain ⟨r0, hr0⟩ : ∃ z, AQ (n + 1) d x r = z := ⟨_, rfl⟩
 rw [hr0]
 rw [hr0] at hV
 have HH := hid (h.below hb1)
 have HY := hid (hy.below (hb1.mono hlt))
 rw [AA] at hn
 obtain ⟨W1, hW1⟩ : ∃ W1, E7 w (.int .i64 x.no) (.int .i64 x.col) (.slice A x.l.length ca) = W1 := ⟨_, rfl⟩
 have HW1 := hid hW1
 unfold E7 at hW1
 rw [show E7 w (.int .i64 x.no) (.int .i64 x.col) (.slice A x.l.length ca) = W1 from HW1.out] at HX hs1 HH HY
 have HS1 := hid hs1
 clear hX hN hb1 hs1 hr0 h hy
 by_cases h1 : x.l.length = 1
 ·rw [if_pos h1] at hV
  have hT := GM R b x r W1 HH.out
  have hBB := fun wx hx => hB x.no x.col x.col A x.l.length ca d r wx hx hg.tail hd (by omega)
  rw [<- hV] at hBB
  have HBB := hid hBB
  obtain ⟨no, xc, l⟩ := x
  dsimp only at h1 hW1 HX HBB hT |-
  rw [h1] at hW1 HX HBB |-
  obtain ⟨x0, x1, x2, _⟩ := Az HX.out.1
  clear hV hB hC hg hgx hxl HY HH hn h1 hBB HW1
  go_enter Tryz.func107, Tryz.ntmps107
  go_wp2_with fail
  refine hT.mono ?_
  rintro e w2 ⟨⟨pv, rfl⟩, hrd, hm⟩
  have HX2 := hid (Ai (hm.heap HX.out.1 (by omega) (by omega)) (Ai (hm.heap HX.out.2.1 (by omega) (by omega)) ((AB.of_below HX.out.2.2).trans hm)))
  have hlt3 := (Gl HX2.out.2.1)
  have HRD := hid hrd
  clear hT hm hrd x0 x1 x2
  obtain ⟨x0, x1, x2, _⟩ := Az HX2.out.1
  go_wp2_with fail
  refine (HBB.out _ HRD.out).mono ?_
  intro e w3 hp
  cases r0 with
  | out => exact hp.elim
  | bad n2 er2 =>
   obtain ⟨tv, rfl, ⟨tk, tnm, xk, xn, ys, KA0, kl, kc, TA, tl, tc, rfl⟩, ⟨es2, hrd⟩, hm⟩ := hp
   have hN3 := hm.heap HX2.out.2.1 (by omega) (by omega)
   obtain ⟨_, _, _, _, _, _, _, f0, f1, f2, f3, f4, f5, f6⟩ := Ay hN3
   have HE := hid (Ai hrd (Ai hm hN3))
   clear hrd hm hN3 x0 x1 x2
   unfold Ci
   go_wp2
   obtain ⟨⟨e0, e1, e2, e3, e4, e5, e6⟩, hbz, _⟩ := CM HE.out.2.2 (.int .i64 tk) (.string tnm) (.int .i64 xk) (.int .i64 xn) (.string ys) (.slice KA0 kl kc) (.slice TA tl tc) _ rfl
   refine bodyPost_ret (v := .tuple #[.agg #[.int .i64 tk, .string tnm, .int .i64 xk, .int .i64 xn, .string ys, .slice KA0 kl kc, .slice TA tl tc], Ci n2 er2]) (by simp [results, Tryz.results107, go_sem, e0, e1, e2, e3, e4, e5, e6, Ci]) rfl ?_
   exact ⟨_, rfl, ⟨_, _, _, _, _, _, _, _, _, _, _, rfl⟩, ⟨es2, HE.out.1.belowR (hbz _ _ (Bq _ _) (by omega))⟩, Ie (HX2.out.2.2.trans HE.out.2.1) (by omega) _ _ _ _ _ _ _ _ rfl⟩
  | ok t rest =>
   obtain ⟨tv, rfl, htv, hrd, hm⟩ := hp
   obtain ⟨tk, tnm, xk, xn, ys, KA0, kl, kc, TA, tl, tc, rfl⟩ := htv.form
   have hN3 := hm.heap HX2.out.2.1 (by omega) (by omega)
   obtain ⟨_, _, _, _, _, _, _, f0, f1, f2, f3, f4, f5, f6⟩ := Ay hN3
   have HE := hid (Ai hrd (Ai hm (Ai hN3 htv)))
   clear hrd hm hN3 htv x0 x1 x2
   go_wp2
   obtain ⟨⟨e0, e1, e2, e3, e4, e5, e6⟩, _, _⟩ := CM HE.out.2.2.1 (.int .i64 tk) (.string tnm) (.int .i64 xk) (.int .i64 xn) (.string ys) (.slice KA0 kl kc) (.slice TA tl tc) _ rfl
   refine bodyPost_ret (v := .tuple #[.agg #[.int .i64 tk, .string tnm, .int .i64 xk, .int .i64 xn, .string ys, .slice KA0 kl kc, .slice TA tl tc], .nilIface]) (by simp [results, Tryz.results107, go_sem, e0, e1, e2, e3, e4, e5, e6]) rfl ?_
   obtain ⟨q1, q2, q3⟩ := BZ.fin (N := w.heap.size + 1) hlt HX2.out.2.2 (by omega) hlt3 HE.out.2.2.1 HE.out.2.2.2 HE.out.1 HE.out.2.1 rfl
   exact ⟨_, rfl, q1, q2, q3⟩
 ·rw [if_neg h1] at hV
  have h2 : 2 <= x.l.length := by omega
  obtain ⟨a, o, ⟨L', ca', e⟩, haR, hab, g0, g1⟩ := VJ HY.out h2
  injection e with e1 e2 e3
  subst e1 e2 e3
  have hnl : (Ca x).l.length = x.l.length - 1 := List.length_tail
  have hcap : x.l.length <= ca := by
   obtain ⟨A', c', hv, hc, _⟩ := HY.out
   injection hv with _ _ e3
   omega
  have hb0 := SP.at x hgx 0 (by omega)
  have hb1 := SP.at x hgx 1 (by omega)
  have hlo := hgx.lo
  have hhi := hgx.hi
  have HP := hid (fun wx (hb : Below W1.heap.size W1 wx) => T9 R b x (Ca x) r (some ⟨a, o + 3, none⟩) (ca - 1) wx (HH.out.below hb) (by have := ((HY.out.below (hb.mono HH.out.rlt)).tail h2); rw [hnl]; exact this))
  have HNN := hid (fun wx hx => hC x.col d (Ca x :: r) wx hx (fun y hy => by
   rcases List.mem_cons.1 hy with rfl | hy
   ·exact hgx.next h2
   ·exact hg y (List.mem_cons_of_mem _ hy)) (by simp) hd (by rw [AA, hnl]; omega))
  rw [<- hV] at HNN
  rw [hnl] at HP
  have hne : (Ca x).no = x.no := rfl
  have hcol : (Ca x).col = x.col + (x.l.getD 1 EK).at_ - (x.l.getD 0 EK).at_ := rfl
  rw [hne, hcol] at HP
  obtain ⟨p0, hp0⟩ : ∃ p, (x.l.getD 0 EK).at_ = p := ⟨_, rfl⟩
  obtain ⟨p1, hp1⟩ : ∃ p, (x.l.getD 1 EK).at_ = p := ⟨_, rfl⟩
  rw [hp0] at g0 HP hb0 hlo hhi
  rw [hp1] at g1 HP hb1
  obtain ⟨es3, hes3⟩ : ∃ z, Ca x :: r = z := ⟨_, rfl⟩
  rw [hes3] at HP HNN
  obtain ⟨no, xc, l⟩ := x
  dsimp only at h1 h2 hW1 HX HP HNN hcap hlo hhi |-
  obtain ⟨L, hL⟩ : ∃ L, l.length = L := ⟨_, rfl⟩
  rw [hL] at h1 h2 hW1 HX HP hcap |-
  have hw1 : IntKind.i64.wrap (xc + p1) = xc + p1 := IntWalk.i64_in _ (by omega)
  have hw2 : IntKind.i64.wrap (xc + p1 - p0) = xc + p1 - p0 := IntWalk.i64_in _ (by omega)
  have hLi : ((L : Int) == 1) = false := by rw [beq_eq_false_iff_ne]; omega
  have hL1 : (1 : Int) < (L : Int) := by omega
  have hL0 : (0 : Int) < (L : Int) := by omega
  have hL1n : 1 < L := by omega
  have hL0n : 0 < L := by omega
  have hL1c : (1 : Int) <= (L : Int) := by omega
  have hLc : (L : Int) <= (ca : Int) := by omega
  have hc1 : ¬ ca = 1 := by omega
  obtain ⟨x0, x1, x2, _⟩ := Az HX.out.1
  have h1c : (1 : Int) <= (ca : Int) := by omega
  have HQ := hid (fun (w2 : World) (hm : AB R b W1.drew w2) => by
   obtain ⟨q0, q1, q2, _⟩ := Az (hm.heap (k := w.heap.size) HX.out.1 (by omega) (by omega))
   exact Ai q0 (Ai q1 (Ai q2 (Ai (Af.cell hm (k := a) g0 (fun h => h.elim (fun h => by omega) (fun h => hab h))) (Af.cell hm (k := a) g1 (fun h => h.elim (fun h => by omega) (fun h => hab h)))))))
  clear hV hB hC hg hgx hxl HY HH hn hb0 hb1 hlo hhi hp0 hp1 hes3 hne hcol hnl h1 h2 hL HW1 hcap
  go_enter Tryz.func107, Tryz.ntmps107
  go_wp2
  go_region_held3 (fun w' => w'.cell? ⟨w.heap.size, 0, none⟩ = some (.int .i64 no) /\ w'.cell? ⟨w.heap.size, 1, none⟩ = some (.int .i64 xc) /\ w'.cell? ⟨w.heap.size, 2, none⟩ = some (.slice (some ⟨a, o, none⟩) L ca) /\ w'.cell? ⟨a, o + 2, none⟩ = some (.int .i64 p0) /\ w'.cell? ⟨a, o + 3 + 2, none⟩ = some (.int .i64 p1))
   (first | exact ⟨x0, x1, x2, g0, g1⟩ | exact hS2 | go_keep)
   (first | (go_at_call 135; refine (HP.out _ (Bq _ _).drew).mono ?_; rintro e w2 ⟨⟨pv, rfl⟩, hrd, hm⟩; have hS2 := HQ.out w2 hm))
  have HX2 := hid (Ai (hm.heap (k := w.heap.size) HX.out.1 (by omega) (by omega)) (Ai (hm.heap (k := w.heap.size + 1) HX.out.2.1 (by omega) (by omega)) ((AB.of_below HX.out.2.2.drew).trans hm)))
  have hlt3 := (Gl HX2.out.2.1)
  have HRD := hid hrd
  clear hm hrd x0 x1 x2 g0 g1 hS2 HQ HP
  obtain ⟨x0, x1, x2, _⟩ := Az HX2.out.1
  go_wp2_with fail
  refine (HNN.out _ HRD.out).mono ?_
  intro e w3 hp
  cases r0 with
  | out => exact hp.elim
  | bad n2 er2 =>
   obtain ⟨tv, rfl, ⟨tk, tnm, xk, xn, ys, KA0, kl, kc, TA, tl, tc, rfl⟩, ⟨es2, hrd⟩, hm⟩ := hp
   have hN3 := hm.heap HX2.out.2.1 (by omega) (by omega)
   obtain ⟨_, _, _, _, _, _, _, f0, f1, f2, f3, f4, f5, f6⟩ := Ay hN3
   have HE := hid (Ai hrd (Ai hm hN3))
   clear hrd hm hN3 x0 x1 x2
   unfold Ci
   go_wp2
   obtain ⟨⟨e0, e1, e2, e3, e4, e5, e6⟩, hbz, _⟩ := CM HE.out.2.2 (.int .i64 tk) (.string tnm) (.int .i64 xk) (.int .i64 xn) (.string ys) (.slice KA0 kl kc) (.slice TA tl tc) _ rfl
   refine bodyPost_ret (v := .tuple #[.agg #[.int .i64 tk, .string tnm, .int .i64 xk, .int .i64 xn, .string ys, .slice KA0 kl kc, .slice TA tl tc], Ci n2 er2]) (by simp [results, Tryz.results107, go_sem, e0, e1, e2, e3, e4, e5, e6, Ci]) rfl ?_
   exact ⟨_, rfl, ⟨_, _, _, _, _, _, _, _, _, _, _, rfl⟩, ⟨es2, HE.out.1.belowR (hbz _ _ (Bq _ _) (by omega))⟩, Ie (HX2.out.2.2.trans HE.out.2.1) (by omega) _ _ _ _ _ _ _ _ rfl⟩
  | ok t rest =>
   obtain ⟨tv, rfl, htv, hrd, hm⟩ := hp
   obtain ⟨tk, tnm, xk, xn, ys, KA0, kl, kc, TA, tl, tc, rfl⟩ := htv.form
   have hN3 := hm.heap HX2.out.2.1 (by omega) (by omega)
   obtain ⟨_, _, _, _, _, _, _, f0, f1, f2, f3, f4, f5, f6⟩ := Ay hN3
   have HE := hid (Ai hrd (Ai hm (Ai hN3 htv)))
   clear hrd hm hN3 htv x0 x1 x2
   go_wp2
   obtain ⟨⟨e0, e1, e2, e3, e4, e5, e6⟩, _, _⟩ := CM HE.out.2.2.1 (.int .i64 tk) (.string tnm) (.int .i64 xk) (.int .i64 xn) (.string ys) (.slice KA0 kl kc) (.slice TA tl tc) _ rfl
   refine bodyPost_ret (v := .tuple #[.agg #[.int .i64 tk, .string tnm, .int .i64 xk, .int .i64 xn, .string ys, .slice KA0 kl kc, .slice TA tl tc], .nilIface]) (by simp [results, Tryz.results107, go_sem, e0, e1, e2, e3, e4, e5, e6]) rfl ?_
   obtain ⟨q1, q2, q3⟩ := BZ.fin (N := w.heap.size + 1) hlt HX2.out.2.2 (by omega) hlt3 HE.out.2.2.1 HE.out.2.2.2 HE.out.1 HE.out.2.1 rfl
   exact ⟨_, rfl, q1, q2, q3⟩
end
end Go.Proofs.YtaogfdffgdglkaaGreatDoor
