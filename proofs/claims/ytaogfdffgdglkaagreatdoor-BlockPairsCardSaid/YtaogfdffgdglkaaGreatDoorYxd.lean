/- What is proved: a part of the walk of the program and of its plain laws; no condition beside those that each theorem names. -/
import Derived.Test.YtaogfdffgdglkaaGreatDoorYxc
import Derived.Test.YtaogfdffgdglkaaGreatDoorYa
namespace Go.Proofs.YtaogfdffgdglkaaGreatDoor
open Go Go.RowKit Go.Lib
set_option linter.unusedSimpArgs false
set_option linter.unusedVariables false
section
set_option maxRecDepth 100000
set_option maxHeartbeats 4000000
structure SP (x : En) : Prop where
 ne : x.l ≠ []
 fx : Fx x.l
 lo : -10000000 <= x.col - (x.l.getD 0 EK).at_
 hi : x.col - (x.l.getD 0 EK).at_ <= 10000000
 pl : ∀ t ∈ x.l, 0 <= t.at_ /\ t.at_ <= 10000000
def Gd (es : List En) : Prop := ∀ x ∈ es, SP x
theorem Gd.suffix {es r : List En} (h : Gd es) (hs : r <:+ es) : Gd r := fun x hx => h x (hs.subset hx)
theorem Gd.tail {x : En} {r : List En} (h : Gd (x :: r)) : Gd r := h.suffix (List.suffix_cons _ _)
theorem SP.at (x : En) (h : SP x) (i : Nat) (hi : i < x.l.length) : 0 <= (x.l.getD i EK).at_ /\ (x.l.getD i EK).at_ <= 10000000 := by
 rw [List.getD, List.getElem?_eq_getElem hi]; exact h.pl _ (List.getElem_mem hi)
theorem SP.next {x : En} (h : SP x) (h2 : 2 <= x.l.length) : SP (Ca x) := by
 obtain ⟨no, col, l⟩ := x
 match l, h2 with
 | a :: c :: r, _ =>
  have hf := h.fx
  refine ⟨by simp [Ca], ⟨by have := hf.len; simp [Ca] at this |-; omega, fun q hq => ?_⟩, ?_, ?_, fun t ht => h.pl t (by simp [Ca] at ht |-; exact .inr ht)⟩
  ·have := hf.str (q + 1) (by simp [Ca] at hq |-; omega)
   simpa [Ca] using this
  ·have := h.lo; simp [Ca] at this |-; omega
  ·have := h.hi; simp [Ca] at this |-; omega
def F8 (R b n : Nat) : Prop := ∀ (m : Int) (d : Nat) (es : List En) (w : World), CE w R b es -> Gd es -> es ≠ [] -> d <= 1000 -> 4 * Dw es + 2 <= n →
 Calls Tryz.prog 41 #[.pointer (some ⟨R, 0, none⟩), .int .i64 m, .int .i64 d] w (BZ R b (A8 n m d es) w)
def Jh (R b n : Nat) : Prop := ∀ (no col m : Int) (A : Option Addr) (lf cf d : Nat) (es : List En) (w : World), CE w R b es -> Gd es -> d <= 1000 -> 4 * Dw es + 3 <= n →
 Calls Tryz.prog 111 #[.pointer (some ⟨R, 0, none⟩), .agg #[.int .i64 no, .int .i64 col, .slice A lf cf], .int .i64 m, .int .i64 d] w (BZ R b (Ap n no m d es) w)
theorem BZ.fin {R b N : Nat} {w w3 w4 Z : World} {v0 v1 v2 v3 v4 v5 v6 : Value} {z0 z1 z2 z3 z4 z5 z6 : Value} {ty : TypeId} {t : Tr} {rest : List En} (hR : R < w.heap.size) (hb3 : AB R b w w3) (hN : w.heap.size <= N) (hN3 : N < w3.heap.size) (hN4 : w4.heap[N]? = some (.cells #[z0, z1, z2, z3, z4, z5, z6] ty))
  (ht : Ao w4 (fun k => w3.heap.size <= k) t (.agg #[v0, v1, v2, v3, v4, v5, v6])) (hr : CE w4 R b rest) (hm : AB R b w3 w4)
  (hZ : Z = (((((((w4.setCell ⟨N, 0, none⟩ v0).setCell ⟨N, 1, none⟩ v1).setCell ⟨N, 2, none⟩ v2).setCell ⟨N, 3, none⟩ v3).setCell ⟨N, 4, none⟩ v4).setCell ⟨N, 5, none⟩ v5).setCell ⟨N, 6, none⟩ v6)) :
  Ao Z (fun k => w.heap.size <= k) t (.agg #[v0, v1, v2, v3, v4, v5, v6]) /\ CE Z R b rest /\ AB R b w Z := by
 obtain ⟨_, hbz, hwz⟩ := CM hN4 v0 v1 v2 v3 v4 v5 v6 Z hZ
 have hs3 := hb3.size
 exact ⟨Au (fun k _ hk => by omega) _ _ (As (hwz _ (by omega)) _ _ ht), hr.belowR (hbz (R + 1) w4 (Bq _ _) (by omega)), Ie (hb3.trans hm) hN v0 v1 v2 v3 v4 v5 v6 Z hZ⟩
theorem QS {R b n : Nat} (hC : F8 R b n) : Jh R b (n + 1) := by
 intro no col m A lf cf d es w h hg hd hn
 obtain ⟨hb1, hs1, hX, hN⟩ := EI w (.int .i64 no) (.int .i64 col) (.slice A lf cf)
 have hF := fun er wx => Df no col A lf cf er wx
 have HX := hid (Ai hX (Ai hN hb1))
 have HH := hid h
 have hlt := h.rlt
 have hbR := h.lt
 obtain ⟨W1, hW1⟩ : ∃ W1, E7 w (.int .i64 no) (.int .i64 col) (.slice A lf cf) = W1 := ⟨_, rfl⟩
 have HW1 := hid hW1
 unfold E7 at hW1
 rw [show E7 w (.int .i64 no) (.int .i64 col) (.slice A lf cf) = W1 from HW1.out] at HX hs1
 have HS1 := hid hs1
 clear hX hN hb1 hs1
 cases es with
 | nil =>
  have hV : Ap (n + 1) no m d [] = if 24 < d then .bad no 73 else .ok CL [] := by rw [Ap]
  rw [hV]
  have hNx := Ej R b W1 (h.below HX.out.2.2)
  clear h hV
  by_cases h1 : 24 < d
  ·rw [if_pos h1]
   have h1i : (24 : Int) < (d : Int) := by omega
   go_enter Tryz.func111, Tryz.ntmps111
   go_wp2_with fail
   refine hNx.mono ?_
   rintro e w2 ⟨rfl, hb2⟩
   have hbW := hb2.trans (((Bq _ w2).alloc Nr (.cells #[.int .i64 0, .int .i64 0, .slice none 0 0] 107)).mono hb2.size)
   have HX3 := hid (Ai (Aa HX.out.1 hbW) (Ai (Aa HX.out.2.1 hbW) (HX.out.2.2.trans (hbW.mono HX.out.2.2.size))))
   have hY := Wn w2 (.cells #[.int .i64 0, .int .i64 0, .slice none 0 0] 107)
   have hlt3 := (Gl HX3.out.2.1)
   clear hNx hb2 hbW
   obtain ⟨x0, x1, x2, _⟩ := Az HX3.out.1
   obtain ⟨y0, y1, y2, _⟩ := Az hY
   clear hY
   go_wp2_with fail
   refine (hF 73 _).mono ?_
   rintro e w4 ⟨rfl, hb4⟩
   have HN4 := hid (Aa HX3.out.2.1 hb4)
   have HB4 := hid (HX3.out.2.2.trans (hb4.mono HX3.out.2.2.size))
   obtain ⟨_, _, _, _, _, _, _, f0, f1, f2, f3, f4, f5, f6⟩ := Ay HN4.out
   clear hb4 x0 x1 x2
   unfold Ci
   go_wp2
   obtain ⟨⟨e0, e1, e2, e3, e4, e5, e6⟩, hbz, _⟩ := CM HN4.out (.int .i64 0) (.string ⟨#[]⟩) (.int .i64 0) (.int .i64 0) (.string ⟨#[]⟩) (.slice none 0 0) (.slice none 0 0) _ rfl
   refine bodyPost_ret (v := .tuple #[.agg #[.int .i64 0, .string ⟨#[]⟩, .int .i64 0, .int .i64 0, .string ⟨#[]⟩, .slice none 0 0, .slice none 0 0], Ci no 73]) (by simp [results, Tryz.results111, go_sem, e0, e1, e2, e3, e4, e5, e6, Ci]) rfl ?_
   exact BZ.bad_below HH.out DB (hbz _ _ HB4.out (by omega))
  ·rw [if_neg h1]
   have h1i : ¬ (24 : Int) < (d : Int) := by omega
   go_enter Tryz.func111, Tryz.ntmps111
   go_wp2_with fail
   refine hNx.mono ?_
   rintro e w2 ⟨rfl, hb2⟩
   have hbW := hb2.trans (((Bq _ w2).alloc Nr (.cells #[.int .i64 0, .int .i64 0, .slice none 0 0] 107)).mono hb2.size)
   have HX3 := hid (Ai (Aa HX.out.1 hbW) (Ai (Aa HX.out.2.1 hbW) (HX.out.2.2.trans (hbW.mono HX.out.2.2.size))))
   have hY := Wn w2 (.cells #[.int .i64 0, .int .i64 0, .slice none 0 0] 107)
   have hlt3 := (Gl HX3.out.2.1)
   clear hNx hb2 hbW
   obtain ⟨x0, x1, x2, _⟩ := Az HX3.out.1
   obtain ⟨y0, y1, y2, _⟩ := Az hY
   clear hY
   obtain ⟨_, _, _, _, _, _, _, f0, f1, f2, f3, f4, f5, f6⟩ := Ay HX3.out.2.1
   go_wp2
   obtain ⟨⟨e0, e1, e2, e3, e4, e5, e6⟩, hbz, _⟩ := CM HX3.out.2.1 (.int .i64 0) (.string ⟨#[]⟩) (.int .i64 0) (.int .i64 0) (.string ⟨#[]⟩) (.slice none 0 0) (.slice none 0 0) _ rfl
   refine bodyPost_ret (v := .tuple #[.agg #[.int .i64 0, .string ⟨#[]⟩, .int .i64 0, .int .i64 0, .string ⟨#[]⟩, .slice none 0 0, .slice none 0 0], .nilIface]) (by simp [results, Tryz.results111, go_sem, e0, e1, e2, e3, e4, e5, e6]) rfl ?_
   have hb6 := hbz _ _ HX3.out.2.2 (by omega)
   exact ⟨_, rfl, EB _ _, HH.out.below hb6, AB.of_below hb6⟩
 | cons x r =>
  have hV : Ap (n + 1) no m d (x :: r) = if m < x.col then A8 n m d (x :: r) else if 24 < d then .bad no 73 else .ok CL (x :: r) := by rw [Ap]
  rw [hV]
  obtain ⟨o, c, A2, ca, hdh⟩ := (h.below HX.out.2.2).head
  have hNx := Da R b x o _ c A2 ca W1 hdh (by omega)
  obtain ⟨no2, xc, l⟩ := x
  dsimp only at hNx |-
  obtain ⟨L, hL⟩ : ∃ L, l.length = L := ⟨_, rfl⟩
  rw [hL] at hNx
  clear hdh hL hV
  by_cases hmx : m < xc
  ·rw [if_pos hmx]
   obtain ⟨r0, hr0⟩ : ∃ z, A8 n m d (⟨no2, xc, l⟩ :: r) = z := ⟨_, rfl⟩
   have hCC := fun wx hx => hC m d (⟨no2, xc, l⟩ :: r) wx hx hg (by simp) hd (by omega)
   rw [hr0] at hCC |-
   have HCC := hid hCC
   clear hC hg hn hr0 hCC h
   go_enter Tryz.func111, Tryz.ntmps111
   go_wp2_with fail
   refine hNx.mono ?_
   rintro e w2 ⟨rfl, hb2⟩
   have hbW := hb2.trans (((Bq _ w2).alloc Nr (.cells #[.int .i64 no2, .int .i64 xc, .slice A2 L ca] 107)).mono hb2.size)
   have HX3 := hid (Ai (Aa HX.out.1 hbW) (Ai (Aa HX.out.2.1 hbW) (HX.out.2.2.trans (hbW.mono HX.out.2.2.size))))
   have hY := Wn w2 (.cells #[.int .i64 no2, .int .i64 xc, .slice A2 L ca] 107)
   obtain ⟨w3, hw3⟩ : ∃ w3, w2.alloc (.cells #[.int .i64 no2, .int .i64 xc, .slice A2 L ca] 107) = w3 := ⟨_, rfl⟩
   rw [hw3] at HX3 hY
   have hlt3 := (Gl HX3.out.2.1)
   clear hNx hb2 hbW
   obtain ⟨x0, x1, x2, _⟩ := Az HX3.out.1
   obtain ⟨y0, y1, y2, _⟩ := Az hY
   clear hY
   go_wp2_with fail
   refine (HCC.out _ (HH.out.below HX3.out.2.2)).mono ?_
   intro e w4 hp
   cases r0 with
   | out => exact hp.elim
   | bad n2 er2 =>
    obtain ⟨tv, rfl, ⟨tk, tnm, xk, xn, ys, KA0, kl, kc, TA, tl, tc, rfl⟩, ⟨es2, hrd⟩, hm⟩ := hp
    have hN4 := hm.heap HX3.out.2.1 (by omega) (by omega)
    obtain ⟨_, _, _, _, _, _, _, f0, f1, f2, f3, f4, f5, f6⟩ := Ay hN4
    have HE := hid (Ai hrd (Ai hm hN4))
    clear hrd hm hN4 x0 x1 x2
    unfold Ci
    go_wp2
    obtain ⟨⟨e0, e1, e2, e3, e4, e5, e6⟩, hbz, _⟩ := CM HE.out.2.2 (.int .i64 tk) (.string tnm) (.int .i64 xk) (.int .i64 xn) (.string ys) (.slice KA0 kl kc) (.slice TA tl tc) _ rfl
    refine bodyPost_ret (v := .tuple #[.agg #[.int .i64 tk, .string tnm, .int .i64 xk, .int .i64 xn, .string ys, .slice KA0 kl kc, .slice TA tl tc], Ci n2 er2]) (by simp [results, Tryz.results111, go_sem, e0, e1, e2, e3, e4, e5, e6, Ci]) rfl ?_
    exact ⟨_, rfl, ⟨_, _, _, _, _, _, _, _, _, _, _, rfl⟩, ⟨es2, HE.out.1.belowR (hbz _ _ (Bq _ _) (by omega))⟩, Ie ((AB.of_below HX3.out.2.2).trans HE.out.2.1) (by omega) _ _ _ _ _ _ _ _ rfl⟩
   | ok t rest =>
    obtain ⟨tv, rfl, htv, hrd, hm⟩ := hp
    obtain ⟨tk, tnm, xk, xn, ys, KA0, kl, kc, TA, tl, tc, rfl⟩ := htv.form
    have hN4 := hm.heap HX3.out.2.1 (by omega) (by omega)
    obtain ⟨_, _, _, _, _, _, _, f0, f1, f2, f3, f4, f5, f6⟩ := Ay hN4
    have HE := hid (Ai hrd (Ai hm (Ai hN4 htv)))
    clear hrd hm hN4 htv x0 x1 x2
    go_wp2
    obtain ⟨⟨e0, e1, e2, e3, e4, e5, e6⟩, _, _⟩ := CM HE.out.2.2.1 (.int .i64 tk) (.string tnm) (.int .i64 xk) (.int .i64 xn) (.string ys) (.slice KA0 kl kc) (.slice TA tl tc) _ rfl
    refine bodyPost_ret (v := .tuple #[.agg #[.int .i64 tk, .string tnm, .int .i64 xk, .int .i64 xn, .string ys, .slice KA0 kl kc, .slice TA tl tc], .nilIface]) (by simp [results, Tryz.results111, go_sem, e0, e1, e2, e3, e4, e5, e6]) rfl ?_
    obtain ⟨q1, q2, q3⟩ := BZ.fin (N := w.heap.size + 1) hlt (AB.of_below HX3.out.2.2) (by omega) hlt3 HE.out.2.2.1 HE.out.2.2.2 HE.out.1 HE.out.2.1 rfl
    exact ⟨_, rfl, q1, q2, q3⟩
  ·rw [if_neg hmx]
   clear hC hg hn h
   by_cases h1 : 24 < d
   ·rw [if_pos h1]
    have h1i : (24 : Int) < (d : Int) := by omega
    go_enter Tryz.func111, Tryz.ntmps111
    go_wp2_with fail
    refine hNx.mono ?_
    rintro e w2 ⟨rfl, hb2⟩
    have hbW := hb2.trans (((Bq _ w2).alloc Nr (.cells #[.int .i64 no2, .int .i64 xc, .slice A2 L ca] 107)).mono hb2.size)
    have HX3 := hid (Ai (Aa HX.out.1 hbW) (Ai (Aa HX.out.2.1 hbW) (HX.out.2.2.trans (hbW.mono HX.out.2.2.size))))
    have hY := Wn w2 (.cells #[.int .i64 no2, .int .i64 xc, .slice A2 L ca] 107)
    obtain ⟨w3, hw3⟩ : ∃ w3, w2.alloc (.cells #[.int .i64 no2, .int .i64 xc, .slice A2 L ca] 107) = w3 := ⟨_, rfl⟩
    rw [hw3] at HX3 hY
    have hlt3 := (Gl HX3.out.2.1)
    clear hNx hb2 hbW
    obtain ⟨x0, x1, x2, _⟩ := Az HX3.out.1
    obtain ⟨y0, y1, y2, _⟩ := Az hY
    clear hY
    go_wp2_with fail
    refine (hF 73 _).mono ?_
    rintro e w4 ⟨rfl, hb4⟩
    have HN4 := hid (Aa HX3.out.2.1 hb4)
    have HB4 := hid (HX3.out.2.2.trans (hb4.mono HX3.out.2.2.size))
    obtain ⟨_, _, _, _, _, _, _, f0, f1, f2, f3, f4, f5, f6⟩ := Ay HN4.out
    clear hb4 x0 x1 x2
    unfold Ci
    go_wp2
    obtain ⟨⟨e0, e1, e2, e3, e4, e5, e6⟩, hbz, _⟩ := CM HN4.out (.int .i64 0) (.string ⟨#[]⟩) (.int .i64 0) (.int .i64 0) (.string ⟨#[]⟩) (.slice none 0 0) (.slice none 0 0) _ rfl
    refine bodyPost_ret (v := .tuple #[.agg #[.int .i64 0, .string ⟨#[]⟩, .int .i64 0, .int .i64 0, .string ⟨#[]⟩, .slice none 0 0, .slice none 0 0], Ci no 73]) (by simp [results, Tryz.results111, go_sem, e0, e1, e2, e3, e4, e5, e6, Ci]) rfl ?_
    exact BZ.bad_below HH.out DB (hbz _ _ HB4.out (by omega))
   ·rw [if_neg h1]
    have h1i : ¬ (24 : Int) < (d : Int) := by omega
    go_enter Tryz.func111, Tryz.ntmps111
    go_wp2_with fail
    refine hNx.mono ?_
    rintro e w2 ⟨rfl, hb2⟩
    have hbW := hb2.trans (((Bq _ w2).alloc Nr (.cells #[.int .i64 no2, .int .i64 xc, .slice A2 L ca] 107)).mono hb2.size)
    have HX3 := hid (Ai (Aa HX.out.1 hbW) (Ai (Aa HX.out.2.1 hbW) (HX.out.2.2.trans (hbW.mono HX.out.2.2.size))))
    have hY := Wn w2 (.cells #[.int .i64 no2, .int .i64 xc, .slice A2 L ca] 107)
    obtain ⟨w3, hw3⟩ : ∃ w3, w2.alloc (.cells #[.int .i64 no2, .int .i64 xc, .slice A2 L ca] 107) = w3 := ⟨_, rfl⟩
    rw [hw3] at HX3 hY
    have hlt3 := (Gl HX3.out.2.1)
    clear hNx hb2 hbW
    obtain ⟨x0, x1, x2, _⟩ := Az HX3.out.1
    obtain ⟨y0, y1, y2, _⟩ := Az hY
    clear hY
    obtain ⟨_, _, _, _, _, _, _, f0, f1, f2, f3, f4, f5, f6⟩ := Ay HX3.out.2.1
    go_wp2
    obtain ⟨⟨e0, e1, e2, e3, e4, e5, e6⟩, hbz, _⟩ := CM HX3.out.2.1 (.int .i64 0) (.string ⟨#[]⟩) (.int .i64 0) (.int .i64 0) (.string ⟨#[]⟩) (.slice none 0 0) (.slice none 0 0) _ rfl
    refine bodyPost_ret (v := .tuple #[.agg #[.int .i64 0, .string ⟨#[]⟩, .int .i64 0, .int .i64 0, .string ⟨#[]⟩, .slice none 0 0, .slice none 0 0], .nilIface]) (by simp [results, Tryz.results111, go_sem, e0, e1, e2, e3, e4, e5, e6]) rfl ?_
    have hb6 := hbz _ _ HX3.out.2.2 (by omega)
    exact ⟨_, rfl, EB _ _, HH.out.below hb6, AB.of_below hb6⟩
end
section
set_option maxRecDepth 100000
set_option maxHeartbeats 4000000
theorem Ao.parts2 {w : World} {S : Nat -> Prop} {t : Tr} {k xk xn : Int} {nm xs : ByteArray} {KA A : Option Addr} {kl kc l c : Nat} (h : Ao w S t (.agg #[.int .i64 k, .string nm, .int .i64 xk, .int .i64 xn, .string xs, .slice KA kl kc, .slice A l c])) : t.kind = k /\ t.nm = nm := ⟨h.parts.1.symm, h.parts.2.2.symm⟩
theorem U6 {s : ByteArray} (h : ¬ s = ⟨#[]⟩) : s.toList.isEmpty = false := by
 rw [Lib.toList_data]
 cases s with
 | mk d =>
  cases d with
  | mk l =>
   cases l with
   | nil => exact absurd rfl h
   | cons a r => rfl
theorem MJ {R b n : Nat} (hC : Jh R b n) (no col m : Int) (A : Option Addr) (lf cf d : Nat) (sn : ByteArray) (es : List En) (w : World) (h : CE w R b es) (hg : Gd es) (hd : d <= 1000) (hn : 4 * Dw es + 3 <= n) :
  Calls Tryz.prog 72 #[.pointer (some ⟨R, 0, none⟩), .agg #[.int .i64 no, .int .i64 col, .slice A lf cf], .string sn, .int .i64 m, .int .i64 d] w (BZ R b (D7 no sn.data.toList (Ap n no m d es)) w) := by
 obtain ⟨hb1, hs1, hX, hN⟩ := EI w (.int .i64 no) (.int .i64 col) (.slice A lf cf)
 have hF := fun er wx => Df no col A lf cf er wx
 have HX := hid (Ai hX (Ai hN hb1))
 have hlt := h.rlt
 have hbR := h.lt
 obtain ⟨r0, hr0⟩ : ∃ z, Ap n no m d es = z := ⟨_, rfl⟩
 have hB := hC no col m A lf cf d es (E7 w (.int .i64 no) (.int .i64 col) (.slice A lf cf)) (h.below hb1) hg hd hn
 rw [hr0] at hB |-
 obtain ⟨rr, hrr⟩ : ∃ z, D7 no sn.data.toList r0 = z := ⟨_, rfl⟩
 rw [hrr]
 have HRR := hid hrr
 obtain ⟨W1, hW1⟩ : ∃ W1, E7 w (.int .i64 no) (.int .i64 col) (.slice A lf cf) = W1 := ⟨_, rfl⟩
 have HW1 := hid hW1
 unfold E7 at hW1
 rw [show E7 w (.int .i64 no) (.int .i64 col) (.slice A lf cf) = W1 from HW1.out] at HX hs1 hB
 have HS1 := hid hs1
 clear hX hN hb1 hs1 hr0 hC hg hn h hrr
 obtain ⟨x0, x1, x2, _⟩ := Az HX.out.1
 go_enter Tryz.func72, Tryz.ntmps72
 go_wp2_with fail
 refine hB.mono ?_
 intro e w2 hp
 clear hB x0 x1 x2
 cases r0 with
 | out => exact hp.elim
 | bad n2 er2 =>
  obtain rfl : rr = .bad n2 er2 := by rw [<- HRR.out]; rfl
  obtain ⟨tv, rfl, ⟨tk, tnm, xk, xn, ys, KA0, kl, kc, TA, tl, tc, rfl⟩, ⟨es2, hrd⟩, hm⟩ := hp
  have hmW := (AB.of_below HX.out.2.2).trans hm
  have hb0 := hm.heap HX.out.1 (by omega) (by omega)
  have hN2 := hm.heap HX.out.2.1 (by omega) (by omega)
  have hbA : Below w2.heap.size w2 (w2.alloc (.cells #[.int .i64 tk, .string tnm, .int .i64 xk, .int .i64 xn, .string ys, .slice KA0 kl kc, .slice TA tl tc] 30)) := (Bq _ w2).alloc Nr _
  have hsz2 : W1.heap.size <= w2.heap.size := hm.size
  have HT := hid (Wn w2 (.cells #[.int .i64 tk, .string tnm, .int .i64 xk, .int .i64 xn, .string ys, .slice KA0 kl kc, .slice TA tl tc] 30))
  have HX3 := hid (Ai (Aa hb0 hbA) (Ai (Aa hN2 hbA) (hmW.below hbA)))
  obtain ⟨w3, hw3⟩ : ∃ w3, w2.alloc (.cells #[.int .i64 tk, .string tnm, .int .i64 xk, .int .i64 xn, .string ys, .slice KA0 kl kc, .slice TA tl tc] 30) = w3 := ⟨_, rfl⟩
  rw [hw3] at HX3 HT hbA
  have hlt3 : w2.heap.size < w3.heap.size := (Gl HT.out)
  have hs1 := HS1.out
  clear hmW hb0 hN2
  have HRD := hid ((hrd.below hbA).put (a := ⟨w2.heap.size, 1, none⟩) (by have := hrd.rlt; simp; omega) (.string sn))
  unfold Ci
  have hT5 := heap_setCell_same w3 w2.heap.size 1 _ _ (.string sn) HT.out
  simp only [List.setIfInBounds_toArray, List.set_cons_zero, List.set_cons_succ] at hT5
  have hN5 := (Bh w3 ⟨w2.heap.size, 1, none⟩ (.string sn) (w.heap.size + 1) (by simp; omega)).trans HX3.out.2.1
  have hm5 := HX3.out.2.2.put (a := ⟨w2.heap.size, 1, none⟩) (by simp; omega) (.string sn)
  have HD5 := hid (fun (S : Nat -> Prop) (hS : ¬ S w2.heap.size) => B4.of_turn (S := S) (B := 0) (Af.setCell (C := fun k => k = w2.heap.size) w3 ⟨w2.heap.size, 1, none⟩ (.string sn) rfl) (fun k hk => by rw [hk]; exact hS))
  obtain ⟨_, _, _, _, _, _, _, f0, f1, f2, f3, f4, f5, f6⟩ := Ay HT.out
  obtain ⟨w5, hw5⟩ : ∃ w5, w3.setCell ⟨w2.heap.size, 1, none⟩ (.string sn) = w5 := ⟨_, rfl⟩
  rw [hw5] at hT5 hN5 hm5 HD5
  have HX5 := hid (Ai hN5 hm5)
  obtain ⟨t0, t1, t2, t3, t4, t5, t6, _⟩ := Ay hT5
  obtain ⟨_, _, _, _, _, _, _, g0, g1, g2, g3, g4, g5, g6⟩ := Ay hN5
  clear hT5 hN5 hm5
  rw [hw5] at HRD
  clear hm hrd hbA
  obtain ⟨u0, u1, u2, u3, u4, u5, u6, _⟩ := Ay HT.out
  go_wp2
  obtain ⟨⟨e0, e1, e2, e3, e4, e5, e6⟩, hbz, hwz⟩ := CM HX5.out.1 (.int .i64 tk) (.string sn) (.int .i64 xk) (.int .i64 xn) (.string ys) (.slice KA0 kl kc) (.slice TA tl tc) _ rfl
  refine bodyPost_ret (v := .tuple #[.agg #[.int .i64 tk, .string sn, .int .i64 xk, .int .i64 xn, .string ys, .slice KA0 kl kc, .slice TA tl tc], Ci n2 er2]) (by simp [results, Tryz.results72, go_sem, e0, e1, e2, e3, e4, e5, e6, Ci]) rfl ?_
  exact ⟨_, rfl, ⟨_, _, _, _, _, _, _, _, _, _, _, rfl⟩, ⟨es2, HRD.out.belowR (hbz _ _ (Bq _ _) (by omega))⟩, Ie HX5.out.2 (by omega) _ _ _ _ _ _ _ _ rfl⟩
 | ok t rest =>
  obtain ⟨tv, rfl, htv, hrd, hm⟩ := hp
  obtain ⟨tk, tnm, xk, xn, ys, KA0, kl, kc, TA, tl, tc, rfl⟩ := htv.form
  obtain ⟨hpk, hpn⟩ := htv.parts2
  have hmW := (AB.of_below HX.out.2.2).trans hm
  have hb0 := hm.heap HX.out.1 (by omega) (by omega)
  have hN2 := hm.heap HX.out.2.1 (by omega) (by omega)
  have hbA : Below w2.heap.size w2 (w2.alloc (.cells #[.int .i64 tk, .string tnm, .int .i64 xk, .int .i64 xn, .string ys, .slice KA0 kl kc, .slice TA tl tc] 30)) := (Bq _ w2).alloc Nr _
  have hsz2 : W1.heap.size <= w2.heap.size := hm.size
  have HT := hid (Wn w2 (.cells #[.int .i64 tk, .string tnm, .int .i64 xk, .int .i64 xn, .string ys, .slice KA0 kl kc, .slice TA tl tc] 30))
  have HX3 := hid (Ai (Aa hb0 hbA) (Ai (Aa hN2 hbA) (hmW.below hbA)))
  obtain ⟨w3, hw3⟩ : ∃ w3, w2.alloc (.cells #[.int .i64 tk, .string tnm, .int .i64 xk, .int .i64 xn, .string ys, .slice KA0 kl kc, .slice TA tl tc] 30) = w3 := ⟨_, rfl⟩
  rw [hw3] at HX3 HT hbA
  have hlt3 : w2.heap.size < w3.heap.size := (Gl HT.out)
  have hs1 := HS1.out
  clear hmW hb0 hN2
  have HRD := hid (hrd.below hbA)
  have hrr := hrd.rlt
  have HTV := hid ((Au (S' := fun k => W1.heap.size <= k /\ k < w2.heap.size) (fun k hk hs => ⟨hs, hk⟩) t _ htv).below hbA)
  have hnv : D7 no sn.data.toList (.ok t rest) = if tk = 3 \/ tnm ≠ ⟨#[]⟩ then .bad no 93 else .ok (t.named sn.data.toList) rest := by unfold D7; simp only; rw [hpk, hpn]
  have hrr2 := HRR.out.symm.trans hnv
  clear hm hrd hbA htv hpk hpn hnv
  obtain ⟨u0, u1, u2, u3, u4, u5, u6, _⟩ := Ay HT.out
  obtain ⟨x0, x1, x2, _⟩ := Az HX3.out.1
  by_cases hk3 : tk = 3
  ·obtain rfl : rr = .bad no 93 := by rw [hrr2, if_pos (.inl hk3)]
   have hki : (tk == 3) = true := by simpa using hk3
   clear hk3 hrr2
   go_wp2_with fail
   refine (hF 93 _).mono ?_
   rintro e w4 ⟨rfl, hb4⟩
   have HX4 := hid (Ai (Aa HX3.out.1 hb4) (Ai (Aa HX3.out.2.1 hb4) (HX3.out.2.2.below hb4)))
   have HT4 := hid (Aa HT.out hb4)
   have HRD5 := hid ((HRD.out.below hb4).put (a := ⟨w2.heap.size, 1, none⟩) (by simp; omega) (.string sn))
   have hlt4 : w2.heap.size < w4.heap.size := (Gl HT4.out)
   clear hb4 u0 u1 u2 u3 u4 u5 u6 x0 x1 x2
   unfold Ci
   have hT5 := heap_setCell_same w4 w2.heap.size 1 _ _ (.string sn) HT4.out
   simp only [List.setIfInBounds_toArray, List.set_cons_zero, List.set_cons_succ] at hT5
   have hN5 := (Bh w4 ⟨w2.heap.size, 1, none⟩ (.string sn) (w.heap.size + 1) (by simp; omega)).trans HX4.out.2.1
   have hm5 := HX4.out.2.2.put (a := ⟨w2.heap.size, 1, none⟩) (by simp; omega) (.string sn)
   have HD5 := hid (fun (S : Nat -> Prop) (hS : ¬ S w2.heap.size) => B4.of_turn (S := S) (B := 0) (Af.setCell (C := fun k => k = w2.heap.size) w4 ⟨w2.heap.size, 1, none⟩ (.string sn) rfl) (fun k hk => by rw [hk]; exact hS))
   obtain ⟨_, _, _, _, _, _, _, f0, f1, f2, f3, f4, f5, f6⟩ := Ay HT4.out
   obtain ⟨w5, hw5⟩ : ∃ w5, w4.setCell ⟨w2.heap.size, 1, none⟩ (.string sn) = w5 := ⟨_, rfl⟩
   rw [hw5] at hT5 hN5 hm5 HD5
   have HX5 := hid (Ai hN5 hm5)
   obtain ⟨t0, t1, t2, t3, t4, t5, t6, _⟩ := Ay hT5
   obtain ⟨_, _, _, _, _, _, _, g0, g1, g2, g3, g4, g5, g6⟩ := Ay hN5
   clear hT5 hN5 hm5
   rw [hw5] at HRD5
   obtain ⟨u0, u1, u2, u3, u4, u5, u6, _⟩ := Ay HT4.out
   go_wp2
   obtain ⟨⟨e0, e1, e2, e3, e4, e5, e6⟩, hbz, hwz⟩ := CM HX5.out.1 (.int .i64 tk) (.string sn) (.int .i64 xk) (.int .i64 xn) (.string ys) (.slice KA0 kl kc) (.slice TA tl tc) _ rfl
   refine bodyPost_ret (v := .tuple #[.agg #[.int .i64 tk, .string sn, .int .i64 xk, .int .i64 xn, .string ys, .slice KA0 kl kc, .slice TA tl tc], Ci no 93]) (by simp [results, Tryz.results72, go_sem, e0, e1, e2, e3, e4, e5, e6, Ci]) rfl ?_
   exact ⟨_, rfl, ⟨_, _, _, _, _, _, _, _, _, _, _, rfl⟩, ⟨rest, HRD5.out.belowR (hbz _ _ (Bq _ _) (by omega))⟩, Ie HX5.out.2 (by omega) _ _ _ _ _ _ _ _ rfl⟩
  by_cases hne : tnm = ⟨#[]⟩
  case neg =>
   obtain rfl : rr = .bad no 93 := by rw [hrr2, if_pos (.inr hne)]
   have hki : (tk == 3) = false := by rw [beq_eq_false_iff_ne]; exact hk3
   have hni := U6 hne
   clear hk3 hne hrr2
   go_wp2_with fail
   refine (hF 93 _).mono ?_
   rintro e w4 ⟨rfl, hb4⟩
   have HX4 := hid (Ai (Aa HX3.out.1 hb4) (Ai (Aa HX3.out.2.1 hb4) (HX3.out.2.2.below hb4)))
   have HT4 := hid (Aa HT.out hb4)
   have HRD5 := hid ((HRD.out.below hb4).put (a := ⟨w2.heap.size, 1, none⟩) (by simp; omega) (.string sn))
   have hlt4 : w2.heap.size < w4.heap.size := (Gl HT4.out)
   clear hb4 u0 u1 u2 u3 u4 u5 u6 x0 x1 x2
   unfold Ci
   have hT5 := heap_setCell_same w4 w2.heap.size 1 _ _ (.string sn) HT4.out
   simp only [List.setIfInBounds_toArray, List.set_cons_zero, List.set_cons_succ] at hT5
   have hN5 := (Bh w4 ⟨w2.heap.size, 1, none⟩ (.string sn) (w.heap.size + 1) (by simp; omega)).trans HX4.out.2.1
   have hm5 := HX4.out.2.2.put (a := ⟨w2.heap.size, 1, none⟩) (by simp; omega) (.string sn)
   have HD5 := hid (fun (S : Nat -> Prop) (hS : ¬ S w2.heap.size) => B4.of_turn (S := S) (B := 0) (Af.setCell (C := fun k => k = w2.heap.size) w4 ⟨w2.heap.size, 1, none⟩ (.string sn) rfl) (fun k hk => by rw [hk]; exact hS))
   obtain ⟨_, _, _, _, _, _, _, f0, f1, f2, f3, f4, f5, f6⟩ := Ay HT4.out
   obtain ⟨w5, hw5⟩ : ∃ w5, w4.setCell ⟨w2.heap.size, 1, none⟩ (.string sn) = w5 := ⟨_, rfl⟩
   rw [hw5] at hT5 hN5 hm5 HD5
   have HX5 := hid (Ai hN5 hm5)
   obtain ⟨t0, t1, t2, t3, t4, t5, t6, _⟩ := Ay hT5
   obtain ⟨_, _, _, _, _, _, _, g0, g1, g2, g3, g4, g5, g6⟩ := Ay hN5
   clear hT5 hN5 hm5
   rw [hw5] at HRD5
   obtain ⟨u0, u1, u2, u3, u4, u5, u6, _⟩ := Ay HT4.out
   go_wp2
   obtain ⟨⟨e0, e1, e2, e3, e4, e5, e6⟩, hbz, hwz⟩ := CM HX5.out.1 (.int .i64 tk) (.string sn) (.int .i64 xk) (.int .i64 xn) (.string ys) (.slice KA0 kl kc) (.slice TA tl tc) _ rfl
   refine bodyPost_ret (v := .tuple #[.agg #[.int .i64 tk, .string sn, .int .i64 xk, .int .i64 xn, .string ys, .slice KA0 kl kc, .slice TA tl tc], Ci no 93]) (by simp [results, Tryz.results72, go_sem, e0, e1, e2, e3, e4, e5, e6, Ci]) rfl ?_
   exact ⟨_, rfl, ⟨_, _, _, _, _, _, _, _, _, _, _, rfl⟩, ⟨rest, HRD5.out.belowR (hbz _ _ (Bq _ _) (by omega))⟩, Ie HX5.out.2 (by omega) _ _ _ _ _ _ _ _ rfl⟩
  case pos =>
   obtain rfl : rr = .ok (t.named sn.data.toList) rest := by rw [hrr2, if_neg (fun h => h.elim hk3 (fun h => h hne))]
   subst hne
   have hki : (tk == 3) = false := by rw [beq_eq_false_iff_ne]; exact hk3
   clear hk3 hrr2
   have HRD5 := hid (HRD.out.put (a := ⟨w2.heap.size, 1, none⟩) (by simp; omega) (.string sn))
   have hT5 := heap_setCell_same w3 w2.heap.size 1 _ _ (.string sn) HT.out
   simp only [List.setIfInBounds_toArray, List.set_cons_zero, List.set_cons_succ] at hT5
   have hN5 := (Bh w3 ⟨w2.heap.size, 1, none⟩ (.string sn) (w.heap.size + 1) (by simp; omega)).trans HX3.out.2.1
   have hm5 := HX3.out.2.2.put (a := ⟨w2.heap.size, 1, none⟩) (by simp; omega) (.string sn)
   have HD5 := hid (fun (S : Nat -> Prop) (hS : ¬ S w2.heap.size) => B4.of_turn (S := S) (B := 0) (Af.setCell (C := fun k => k = w2.heap.size) w3 ⟨w2.heap.size, 1, none⟩ (.string sn) rfl) (fun k hk => by rw [hk]; exact hS))
   obtain ⟨_, _, _, _, _, _, _, f0, f1, f2, f3, f4, f5, f6⟩ := Ay HT.out
   obtain ⟨w5, hw5⟩ : ∃ w5, w3.setCell ⟨w2.heap.size, 1, none⟩ (.string sn) = w5 := ⟨_, rfl⟩
   rw [hw5] at hT5 hN5 hm5 HD5
   have HX5 := hid (Ai hN5 hm5)
   obtain ⟨t0, t1, t2, t3, t4, t5, t6, _⟩ := Ay hT5
   obtain ⟨_, _, _, _, _, _, _, g0, g1, g2, g3, g4, g5, g6⟩ := Ay hN5
   clear hT5 hN5 hm5
   rw [hw5] at HRD5
   go_wp2
   obtain ⟨⟨e0, e1, e2, e3, e4, e5, e6⟩, hbz, hwz⟩ := CM HX5.out.1 (.int .i64 tk) (.string sn) (.int .i64 xk) (.int .i64 xn) (.string ys) (.slice KA0 kl kc) (.slice TA tl tc) _ rfl
   refine bodyPost_ret (v := .tuple #[.agg #[.int .i64 tk, .string sn, .int .i64 xk, .int .i64 xn, .string ys, .slice KA0 kl kc, .slice TA tl tc], .nilIface]) (by simp [results, Tryz.results72, go_sem, e0, e1, e2, e3, e4, e5, e6, Ci]) rfl ?_
   have h1 := As (HD5.out (fun k => W1.heap.size <= k /\ k < w2.heap.size) (fun h => Nat.lt_irrefl _ h.2)) _ _ HTV.out
   have h2 := Au (S' := fun k => w.heap.size <= k /\ k ≠ w.heap.size + 1) (fun k _ hk => by omega) _ _ h1
   have h3 := (Au (S' := fun k => w.heap.size <= k) (fun k _ hk => hk.1) _ _ (As (hwz _ (by omega)) _ _ h2)).name sn.data.toList
   rw [show (⟨sn.data.toList.toArray⟩ : ByteArray) = sn by cases sn; simp] at h3
   exact ⟨_, rfl, h3, HRD5.out.belowR (hbz _ _ (Bq _ _) (by omega)), Ie HX5.out.2 (by omega) _ _ _ _ _ _ _ _ rfl⟩
end
end Go.Proofs.YtaogfdffgdglkaaGreatDoor
