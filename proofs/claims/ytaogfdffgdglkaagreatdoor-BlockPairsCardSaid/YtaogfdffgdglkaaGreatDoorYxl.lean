/- What is proved: a part of the walk of the program and of its plain laws; no condition beside those that each theorem names. -/
import Derived.Test.YtaogfdffgdglkaaGreatDoorYxk
import Derived.Test.YtaogfdffgdglkaaGreatDoorYxa
import Derived.Test.YtaogfdffgdglkaaGreatDoorYa
namespace Go.Proofs.YtaogfdffgdglkaaGreatDoor
open Go Go.RowKit Go.Lib
set_option linter.unusedSimpArgs false
set_option linter.unusedVariables false
section
set_option maxRecDepth 100000
set_option maxHeartbeats 8000000
theorem BZ.opn2 {R b : Nat} {rr : BR} {wS : World} {e : Ending} {w10 : World} (hp : BZ R b rr wS e w10) :
  ∃ (tk : Int) (tnm : ByteArray) (xk xn : Int) (ys : ByteArray) (KA0 : Option Addr) (kl kc : Nat) (TA : Option Addr) (tl tc : Nat) (ev : Value) (es2 : List En), e = .returned (.tuple #[.agg #[.int .i64 tk, .string tnm, .int .i64 xk, .int .i64 xn, .string ys, .slice KA0 kl kc, .slice TA tl tc], ev]) /\ CE w10 R b es2 /\ AB R b wS w10 ∧
   ∀ (w Z : World), w.heap.size <= wS.heap.size -> B4 (fun k => wS.heap.size <= k) w10 Z -> CE Z R b es2 -> AB R b w Z -> BZ R b rr w (.returned (.tuple #[.agg #[.int .i64 tk, .string tnm, .int .i64 xk, .int .i64 xn, .string ys, .slice KA0 kl kc, .slice TA tl tc], ev])) Z := by
 cases rr with
 | out => exact hp.elim
 | bad n2 er2 =>
  obtain ⟨tv, rfl, ⟨tk, tnm, xk, xn, ys, KA0, kl, kc, TA, tl, tc, rfl⟩, ⟨es2, hrd⟩, hm⟩ := hp
  exact ⟨tk, tnm, xk, xn, ys, KA0, kl, kc, TA, tl, tc, _, es2, rfl, hrd, hm, fun w Z _ _ h2 h3 => ⟨_, rfl, ⟨_, _, _, _, _, _, _, _, _, _, _, rfl⟩, ⟨es2, h2⟩, h3⟩⟩
 | ok t rest =>
  obtain ⟨tv, rfl, htv, hrd, hm⟩ := hp
  obtain ⟨tk, tnm, xk, xn, ys, KA0, kl, kc, TA, tl, tc, rfl⟩ := htv.form
  exact ⟨tk, tnm, xk, xn, ys, KA0, kl, kc, TA, tl, tc, _, rest, rfl, hrd, hm, fun w Z h0 h1 h2 h3 => ⟨_, rfl, Au (fun k _ hk => Nat.le_trans h0 hk) _ _ (As h1 _ _ htv), h2, h3⟩⟩
theorem Ty {R b n : Nat} (hC : ∀ k, k <= n -> F8 R b k) (hn1 : n <= 1000000) : F8 R b (n + 1) := by
 intro m d es w h hg hne hd hn
 cases es with
 | nil => exact absurd rfl hne
 | cons x r =>
  have hV : A8 (n + 1) m d (x :: r) = if 24 < d then .bad x.no 73 else match Bp x.l with
   | .dash => Bn n x.col d (x :: r) []
   | .key => AD n x.col d (x :: r) [] []
   | .name s => D7 x.no s (Ap n x.no m d r)
   | .plain => Bu x.no x.l d r := by rw [A8]; split <;> rfl
  obtain ⟨rr, hrr⟩ : ∃ z, A8 (n + 1) m d (x :: r) = z := ⟨_, rfl⟩
  rw [hrr] at hV |-
  have hgx := hg x List.mem_cons_self
  have hlt := h.rlt
  have hbR := h.lt
  have hmu : 4 * Dw (x :: r) + 1 <= n := by omega
  have hmr : 4 * Dw r + 3 <= n := by rw [AA] at hn; omega
  have hSq := fun wx hx => Vm hC hn1 n Nr x.col d (x :: r) wx hx hg
  have hDi := fun wx hx => TS hC hn1 n Nr x.col d (x :: r) wx hx hg
  have hNm := fun A lf cf s wx hx => MJ (He hC n Nr) x.no x.col m A lf cf d s r wx hx hg.tail hd hmr
  have hb1 : Below w.heap.size w (w.alloc (.cells #[.int .i64 0, .string ⟨#[]⟩, .int .i64 0, .int .i64 0, .string ⟨#[]⟩, .slice none 0 0, .slice none 0 0] 30)) := (Bq _ w).alloc Nr _
  have hN := Wn w (.cells #[.int .i64 0, .string ⟨#[]⟩, .int .i64 0, .int .i64 0, .string ⟨#[]⟩, .slice none 0 0, .slice none 0 0] 30)
  have hRd := h.below hb1
  obtain ⟨W1, hW1⟩ : ∃ W1, w.alloc (.cells #[.int .i64 0, .string ⟨#[]⟩, .int .i64 0, .int .i64 0, .string ⟨#[]⟩, .slice none 0 0, .slice none 0 0] 30) = W1 := ⟨_, rfl⟩
  rw [hW1] at hb1 hN hRd
  obtain ⟨o, c, A, ca, hdh⟩ := hRd.head
  have hNx := Da R b x o _ c A ca W1 hdh (by omega)
  have HEN := hid hdh.en
  have HRD := hid hRd
  have HN := hid (Ai hN hb1)
  have HSq := hid (fun (hx24 : ¬ 24 < d) wx hx => hSq wx hx (by omega) hmu)
  have HDi := hid (fun (hx24 : ¬ 24 < d) wx hx => hDi wx hx (by omega) hmu)
  have HNm := hid hNm
  have HGX := hid hgx
  obtain ⟨no, xc, l⟩ := x
  dsimp only at hNx HEN HRD HSq HDi HNm HGX hV
  have hF := fun er wx => Df no xc A l.length ca er wx
  have hBG := fun wx hx => Ge no xc A ca l wx hx
  have HVl := hid (fun wx hx hv => IU R b r no xc A l.length ca l A ca d wx hx hv (by obtain ⟨A', c', e, hc, _⟩ := HEN.out; injection e with _ _ e3; omega) HGX.out.fx hd)
  obtain ⟨L, hL⟩ : ∃ L, l.length = L := ⟨_, rfl⟩
  rw [hL] at hNx hF hBG HVl
  have HL := hid hL
  have HV := hid hV
  clear hV hL hgx hSq hDi hNm hdh hRd h hN hb1 hg hmu hmr hne hrr hn
  go_enter Tryz.func41, Tryz.ntmps41
  go_wp2_with fail
  refine hNx.mono ?_
  rintro e w2 ⟨rfl, hb2⟩
  have hbE := (Bq _ w2).alloc Nr (.cells #[.int .i64 no, .int .i64 xc, .slice A L ca] 107)
  have hE := Wn w2 (.cells #[.int .i64 no, .int .i64 xc, .slice A L ca] 107)
  have hbW := hb2.trans (hbE.mono hb2.size)
  have HX := hid (Ai (Aa HN.out.1 hbW) (Ai hE (Ai (HRD.out.below hbW) (HN.out.2.trans (hbW.mono HN.out.2.size)))))
  have HE3 := hid (HEN.out.below (hbW.mono HRD.out.rlt))
  obtain ⟨w3, hw3⟩ : ∃ z, w2.alloc (.cells #[.int .i64 no, .int .i64 xc, .slice A L ca] 107) = z := ⟨_, rfl⟩
  rw [hw3] at HX HE3
  have hE3 : w2.heap.size < w3.heap.size := (Gl HX.out.2.1)
  have hNE : w.heap.size < w2.heap.size := by have := hb2.size; have := (Gl HN.out.1); omega
  clear hNx hbE hE hbW hb2
  obtain ⟨x0, x1, x2, _⟩ := Az HX.out.2.1
  by_cases h1 : 24 < d
  ·have hrr : BR.bad no 73 = rr := by have := HV.out; rw [if_pos h1] at this; exact this.symm
   subst hrr
   have h1i : (24 : Int) < (d : Int) := by omega
   go_wp2_with fail
   refine (hF 73 _).mono ?_
   rintro e w4 ⟨rfl, hb4⟩
   have HN4 := hid (Aa HX.out.1 hb4)
   have HB4 := hid (HX.out.2.2.2.trans (hb4.mono HX.out.2.2.2.size))
   have HR4 := hid (HX.out.2.2.1.below hb4)
   obtain ⟨_, _, _, _, _, _, _, f0, f1, f2, f3, f4, f5, f6⟩ := Ay HN4.out
   clear hb4 x0 x1 x2
   unfold Ci
   go_wp2
   obtain ⟨⟨e0, e1, e2, e3, e4, e5, e6⟩, hbz, _⟩ := CM HN4.out (.int .i64 0) (.string ⟨#[]⟩) (.int .i64 0) (.int .i64 0) (.string ⟨#[]⟩) (.slice none 0 0) (.slice none 0 0) _ rfl
   refine bodyPost_ret (v := .tuple #[.agg #[.int .i64 0, .string ⟨#[]⟩, .int .i64 0, .int .i64 0, .string ⟨#[]⟩, .slice none 0 0, .slice none 0 0], Ci no 73]) (by simp [results, Tryz.results41, go_sem, e0, e1, e2, e3, e4, e5, e6, Ci]) rfl ?_
   exact ⟨_, rfl, DB, ⟨_, HR4.out.belowR (hbz (R + 1) w4 (Bq _ _) (by omega))⟩, AB.of_below (hbz _ _ HB4.out Nr)⟩
  ·have HV2 := hid (by have := HV.out; rw [if_neg h1] at this; exact this)
   have h1i : ¬ (24 : Int) < (d : Int) := by omega
   have hBG3 := hBG w3 (by obtain ⟨_, _, e, _, ht, _⟩ := HE3.out; rw [HL.out] at e; rw [<- HL.out]; exact ht)
   clear HV hBG
   go_wp2_with fail
   refine hBG3.mono ?_
   rintro e w4 ⟨rfl, hb4⟩
   have HX4 := hid (Ai (Aa HX.out.1 hb4) (Ai (Aa HX.out.2.1 hb4) (Ai (HX.out.2.2.1.below hb4) (HX.out.2.2.2.trans (hb4.mono HX.out.2.2.2.size)))))
   have HE4 := hid (HE3.out.below (hb4.mono HX.out.2.2.1.rlt))
   have hE4 : w2.heap.size < w4.heap.size := Nat.lt_of_lt_of_le hE3 hb4.size
   clear hBG3 hb4 HX HE3 x0 x1 x2
   obtain ⟨x0, x1, x2, _⟩ := Az HX4.out.2.1
   obtain ⟨g, hgg⟩ : ∃ z, Bp l = z := ⟨_, rfl⟩
   rw [hgg] at HV2 |-
   clear hgg
   cases g with
   | dash =>
    have t1 := Kw
    unfold L5
    have hbA := (Bq _ w4).alloc Nr (.cells #[] 149)
    have HX5 := hid (Ai (Aa HX4.out.1 hbA) (AB.of_below (R := R) (b := b) (HX4.out.2.2.2.trans (hbA.mono HX4.out.2.2.2.size))))
    have HR5 := hid (HX4.out.2.2.1.below hbA)
    have hX5 := Aa HX4.out.2.1 hbA
    have hK5 := Wn w4 (.cells #[] 149)
    obtain ⟨w5, hw5⟩ : ∃ z, w4.alloc (.cells #[] 149) = z := ⟨_, rfl⟩
    rw [hw5] at HX5 HR5 hX5 hK5
    have hE5 : w2.heap.size < w5.heap.size := (Gl hX5)
    clear hbA x0 x1 x2
    obtain ⟨x0, x1, x2, _⟩ := Az hX5
    have hS5 := HSq.out h1 w5 HR5.out
    rw [show Bn n xc d (⟨no, xc, l⟩ :: r) [] = rr from HV2.out.symm] at hS5
    go_wp2_with fail
    refine hS5.mono ?_
    intro e w10 hp
    obtain ⟨tk, tnm, xk, xn, ys, KA0, kl, kc, TA, tl, tc, ev, es2, rfl, hrd, hm, hfin⟩ := hp.opn2
    have hN10 := hm.heap HX5.out.1 (by omega) (by omega)
    have hmd := HX5.out.2.trans hm
    have HFI := hid (Ai hfin (Ai hrd hmd))
    have HN10 := hid hN10
    have hsz10 := hm.size
    have hszw := HX5.out.2.size
    obtain ⟨_, _, _, _, _, _, _, f0, f1, f2, f3, f4, f5, f6⟩ := Ay hN10
    clear hfin hm hrd hmd hN10 hp x0 x1 x2
    go_wp2
    have hN11 := CW HN10.out (.int .i64 tk) (.string tnm) (.int .i64 xk) (.int .i64 xn) (.string ys) (.slice KA0 kl kc) (.slice TA tl tc)
    have hT11 := CX (C := fun k => k = w.heap.size) (B := w.heap.size) w10 (.int .i64 tk) (.string tnm) (.int .i64 xk) (.int .i64 xn) (.string ys) (.slice KA0 kl kc) (.slice TA tl tc) rfl
    obtain ⟨e0, e1, e2, e3, e4, e5, e6, _⟩ := Ay hN11
    refine bodyPost_ret (v := .tuple #[.agg #[.int .i64 tk, .string tnm, .int .i64 xk, .int .i64 xn, .string ys, .slice KA0 kl kc, .slice TA tl tc], ev]) (by simp [results, Tryz.results41, go_sem, e0, e1, e2, e3, e4, e5, e6]) rfl ?_
    exact HFI.out.1 w _ hszw (B4.of_turn hT11 (fun k hk hk2 => by omega)) (HFI.out.2.1.news hT11 (by omega) (fun k hk => by omega)) (HFI.out.2.2.news hT11 (fun k hk => by omega))
   | key =>
    have t1 := K4
    have t2 := Nq
    unfold L5
    have hbA := (Bq _ w4).alloc Nr (.cells #[] 150)
    have HX5 := hid (Ai (Aa HX4.out.1 hbA) (AB.of_below (R := R) (b := b) (HX4.out.2.2.2.trans (hbA.mono HX4.out.2.2.2.size))))
    have HR5 := hid (HX4.out.2.2.1.below hbA)
    have hX5 := Aa HX4.out.2.1 hbA
    have hK5 := Wn w4 (.cells #[] 150)
    obtain ⟨w5, hw5⟩ : ∃ z, w4.alloc (.cells #[] 150) = z := ⟨_, rfl⟩
    rw [hw5] at HX5 HR5 hX5 hK5
    have hE5 : w2.heap.size < w5.heap.size := (Gl hX5)
    clear hbA x0 x1 x2
    obtain ⟨x0, x1, x2, _⟩ := Az hX5
    have hS5 := HDi.out h1 w5 HR5.out
    rw [show AD n xc d (⟨no, xc, l⟩ :: r) [] [] = rr from HV2.out.symm] at hS5
    go_wp2_with fail
    refine hS5.mono ?_
    intro e w10 hp
    obtain ⟨tk, tnm, xk, xn, ys, KA0, kl, kc, TA, tl, tc, ev, es2, rfl, hrd, hm, hfin⟩ := hp.opn2
    have hN10 := hm.heap HX5.out.1 (by omega) (by omega)
    have hmd := HX5.out.2.trans hm
    have HFI := hid (Ai hfin (Ai hrd hmd))
    have HN10 := hid hN10
    have hsz10 := hm.size
    have hszw := HX5.out.2.size
    obtain ⟨_, _, _, _, _, _, _, f0, f1, f2, f3, f4, f5, f6⟩ := Ay hN10
    clear hfin hm hrd hmd hN10 hp x0 x1 x2
    go_wp2
    have hN11 := CW HN10.out (.int .i64 tk) (.string tnm) (.int .i64 xk) (.int .i64 xn) (.string ys) (.slice KA0 kl kc) (.slice TA tl tc)
    have hT11 := CX (C := fun k => k = w.heap.size) (B := w.heap.size) w10 (.int .i64 tk) (.string tnm) (.int .i64 xk) (.int .i64 xn) (.string ys) (.slice KA0 kl kc) (.slice TA tl tc) rfl
    obtain ⟨e0, e1, e2, e3, e4, e5, e6, _⟩ := Ay hN11
    refine bodyPost_ret (v := .tuple #[.agg #[.int .i64 tk, .string tnm, .int .i64 xk, .int .i64 xn, .string ys, .slice KA0 kl kc, .slice TA tl tc], ev]) (by simp [results, Tryz.results41, go_sem, e0, e1, e2, e3, e4, e5, e6]) rfl ?_
    exact HFI.out.1 w _ hszw (B4.of_turn hT11 (fun k hk hk2 => by omega)) (HFI.out.2.1.news hT11 (by omega) (fun k hk => by omega)) (HFI.out.2.2.news hT11 (fun k hk => by omega))
   | name s =>
    have t1 := K0
    have t2 := MY
    have t3 := KV
    unfold L5
    have hbA := (Bq _ w4).alloc Nr (.cells #[.string ⟨s.toArray⟩] 152)
    have HX5 := hid (Ai (Aa HX4.out.1 hbA) (AB.of_below (R := R) (b := b) (HX4.out.2.2.2.trans (hbA.mono HX4.out.2.2.2.size))))
    have HR5 := hid (HX4.out.2.2.1.below hbA)
    have hX5 := Aa HX4.out.2.1 hbA
    have hK5 := Wn w4 (.cells #[.string ⟨s.toArray⟩] 152)
    obtain ⟨w5, hw5⟩ : ∃ z, w4.alloc (.cells #[.string ⟨s.toArray⟩] 152) = z := ⟨_, rfl⟩
    rw [hw5] at HX5 HR5 hX5 hK5
    have hE5 : w2.heap.size < w5.heap.size := (Gl hX5)
    clear hbA x0 x1 x2
    obtain ⟨x0, x1, x2, _⟩ := Az hX5
    have hT := GM R b ⟨no, xc, l⟩ r w5 HR5.out
    go_wp2_with fail
    refine hT.mono ?_
    rintro e w6 ⟨⟨v6, rfl⟩, hr6, hm6⟩
    have HX6 := hid (Ai (hm6.heap HX5.out.1 (by omega) (by omega)) (HX5.out.2.trans hm6))
    have HR6 := hid hr6
    have hX6 := hm6.heap hX5 (by omega) (by omega)
    have hK6 := hm6.heap hK5 (by omega) (by omega)
    have hE6 : w2.heap.size < w6.heap.size := (Gl hX6)
    clear hT hm6 hr6 x0 x1 x2 HX5 HR5 hX5 hK5
    obtain ⟨x0, x1, x2, _⟩ := Az hX6
    obtain ⟨nc0, _⟩ := Oj hK6
    have hS6 := fun A' lf cf => HNm.out A' lf cf ⟨s.toArray⟩ w6 HR6.out
    rw [show (⟨s.toArray⟩ : ByteArray).data.toList = s by simp, show D7 no s (Ap n no m d r) = rr from HV2.out.symm] at hS6
    go_wp2_with fail
    refine (hS6 _ _ _).mono ?_
    intro e w10 hp
    obtain ⟨tk, tnm, xk, xn, ys, KA0, kl, kc, TA, tl, tc, ev, es2, rfl, hrd, hm, hfin⟩ := hp.opn2
    have hN10 := hm.heap HX6.out.1 (by omega) (by omega)
    have hmd := HX6.out.2.trans hm
    have HFI := hid (Ai hfin (Ai hrd hmd))
    have HN10 := hid hN10
    have hsz10 := hm.size
    have hszw := HX6.out.2.size
    obtain ⟨_, _, _, _, _, _, _, f0, f1, f2, f3, f4, f5, f6⟩ := Ay hN10
    clear hfin hm hrd hmd hN10 hp x0 x1 x2
    go_wp2
    have hN11 := CW HN10.out (.int .i64 tk) (.string tnm) (.int .i64 xk) (.int .i64 xn) (.string ys) (.slice KA0 kl kc) (.slice TA tl tc)
    have hT11 := CX (C := fun k => k = w.heap.size) (B := w.heap.size) w10 (.int .i64 tk) (.string tnm) (.int .i64 xk) (.int .i64 xn) (.string ys) (.slice KA0 kl kc) (.slice TA tl tc) rfl
    obtain ⟨e0, e1, e2, e3, e4, e5, e6, _⟩ := Ay hN11
    refine bodyPost_ret (v := .tuple #[.agg #[.int .i64 tk, .string tnm, .int .i64 xk, .int .i64 xn, .string ys, .slice KA0 kl kc, .slice TA tl tc], ev]) (by simp [results, Tryz.results41, go_sem, e0, e1, e2, e3, e4, e5, e6]) rfl ?_
    exact HFI.out.1 w _ hszw (B4.of_turn hT11 (fun k hk hk2 => by omega)) (HFI.out.2.1.news hT11 (by omega) (fun k hk => by omega)) (HFI.out.2.2.news hT11 (fun k hk => by omega))
   | plain =>
    have t1 := KJ
    have t2 := M1
    have t3 := Kv
    unfold L5
    have HX5 := hid (Ai HX4.out.1 (AB.of_below (R := R) (b := b) HX4.out.2.2.2))
    have HR5 := hid HX4.out.2.2.1
    have hX5 := HX4.out.2.1
    have hT := GM R b ⟨no, xc, l⟩ r w4 HR5.out
    go_wp2_with fail
    refine hT.mono ?_
    rintro e w6 ⟨⟨v6, rfl⟩, hr6, hm6⟩
    have HX6 := hid (Ai (hm6.heap HX5.out.1 (by omega) (by omega)) (HX5.out.2.trans hm6))
    have HR6 := hid hr6
    have hX6 := hm6.heap hX5 (by omega) (by omega)
    have HE6 := hid (show AO w6 (.slice A L ca) l by
      obtain ⟨A', c', e, hc, ⟨A'', c'', e2, ht⟩, hf⟩ := HE4.out
      rw [HL.out] at e e2 hf
      refine ⟨A'', c'', by rw [HL.out]; exact e2, fun k hk => ?_⟩
      obtain ⟨bb, oo, ha, hlt2, g0, g1, g2⟩ := ht k hk
      have hbb := hf bb oo _ c'' (by rw [e2, ha]) (by have := HL.out; omega)
      have hnn : ¬ (bb = R \/ bb = b) := fun h => h.elim (fun h => by omega) hbb.2
      exact ⟨bb, oo, ha, Nat.lt_of_lt_of_le hlt2 hm6.size, Af.cell hm6 g0 hnn, Af.cell hm6 g1 hnn, Af.cell hm6 g2 hnn⟩)
    have hE6 : w2.heap.size < w6.heap.size := (Gl hX6)
    clear hT hm6 hr6 x0 x1 x2 hX5
    obtain ⟨x0, x1, x2, _⟩ := Az hX6
    have hS6 := HVl.out w6 HR6.out HE6.out
    rw [show Bu no l d r = rr from HV2.out.symm] at hS6
    go_wp2_with fail
    refine hS6.mono ?_
    intro e w10 hp
    obtain ⟨tk, tnm, xk, xn, ys, KA0, kl, kc, TA, tl, tc, ev, es2, rfl, hrd, hm, hfin⟩ := hp.opn2
    have hN10 := hm.heap HX6.out.1 (by omega) (by omega)
    have hmd := HX6.out.2.trans hm
    have HFI := hid (Ai hfin (Ai hrd hmd))
    have HN10 := hid hN10
    have hsz10 := hm.size
    have hszw := HX6.out.2.size
    obtain ⟨_, _, _, _, _, _, _, f0, f1, f2, f3, f4, f5, f6⟩ := Ay hN10
    clear hfin hm hrd hmd hN10 hp x0 x1 x2
    go_wp2
    have hN11 := CW HN10.out (.int .i64 tk) (.string tnm) (.int .i64 xk) (.int .i64 xn) (.string ys) (.slice KA0 kl kc) (.slice TA tl tc)
    have hT11 := CX (C := fun k => k = w.heap.size) (B := w.heap.size) w10 (.int .i64 tk) (.string tnm) (.int .i64 xk) (.int .i64 xn) (.string ys) (.slice KA0 kl kc) (.slice TA tl tc) rfl
    obtain ⟨e0, e1, e2, e3, e4, e5, e6, _⟩ := Ay hN11
    refine bodyPost_ret (v := .tuple #[.agg #[.int .i64 tk, .string tnm, .int .i64 xk, .int .i64 xn, .string ys, .slice KA0 kl kc, .slice TA tl tc], ev]) (by simp [results, Tryz.results41, go_sem, e0, e1, e2, e3, e4, e5, e6]) rfl ?_
    exact HFI.out.1 w _ hszw (B4.of_turn hT11 (fun k hk hk2 => by omega)) (HFI.out.2.1.news hT11 (by omega) (fun k hk => by omega)) (HFI.out.2.2.news hT11 (fun k hk => by omega))
theorem J2 (R b : Nat) : ∀ n, n <= 1000000 -> ∀ k, k <= n -> F8 R b k
 | 0, _, k, hk => fun _ _ _ _ _ _ _ _ h => by omega
 | n + 1, hn, k, hk => by
  rcases Nat.lt_or_ge k (n + 1) with h | h
  ·exact J2 R b n (by omega) k (by omega)
  ·obtain rfl : k = n + 1 := by omega
   exact Ty (J2 R b n (by omega)) (by omega)
end
section
structure Hi where
 no : Int
 ind : Int
 s : List UInt8
def Kq (t : Tk) : AV := ⟨t.kind, t.str, t.at_⟩
def GB (x : Hi) : Bool := decide (0 <= x.ind) && decide (x.ind <= 8000)
def B9 (s : List UInt8) : List AV × Int := ((C0 s).1.map Kq, if (C0 s).2.2 = 0 /\ (C0 s).1 = [] then 93 else ((C0 s).2.2 : Int))
inductive J8 where
 | ok (es : List En)
 | bad (no e : Int)
def J8.cons (x : En) : J8 -> J8
 | .ok es => .ok (x :: es)
 | b => b
def C7 : List Hi -> J8
 | [] => .ok []
 | x :: r => if (B9 x.s).2 ≠ 0 then .bad x.no (B9 x.s).2 else (C7 r).cons ⟨x.no, x.ind, (B9 x.s).1⟩
def Lq (l : List Hi) : J8 := if l.all GB then C7 l else .bad 0 2
def D3 : BR -> Tr × Int × Int
 | .ok t [] => (t, 0, 0)
 | .ok _ (x :: _) => (CL, x.no, 92)
 | .bad no e => (CL, no, e)
 | .out => (CL, 0, 0)
def B2 (F : Nat) (es : List En) : Tr × Int × Int := if es = [] then (CL, 0, 0) else D3 (A8 F (-1) 1 es)
def AL (F : Nat) (l : List Hi) : Tr × Int × Int := match Lq l with
 | .ok es => B2 F es
 | .bad no e => (CL, no, e)
def QH (k j : Int) (x : Hi) : Hi := ⟨x.no + j, x.ind + k, x.s⟩
def J8.sh (k j : Int) : J8 -> J8
 | .ok es => .ok (es.map (DR k j))
 | .bad no e => .bad (no + j) e
theorem NE (k j : Int) : ∀ l : List Hi, C7 (l.map (QH k j)) = (C7 l).sh k j
 | [] => rfl
 | x :: r => by
  rw [List.map_cons, C7, C7]
  simp only [show (QH k j x).s = x.s from rfl, show (QH k j x).no = x.no + j from rfl, show (QH k j x).ind = x.ind + k from rfl]
  split
  ·rfl
  ·rw [NE k j r]
   cases C7 r with
   | ok es => rfl
   | bad no e => rfl
theorem Fn {l : List Hi} (h : ∀ x ∈ l, 0 <= x.ind /\ x.ind <= 8000) : Lq l = C7 l := by
 unfold Lq
 rw [if_pos]
 rw [List.all_eq_true]
 intro x hx
 simp [GB, h x hx]
theorem EX : ∀ {l : List Hi} {es : List En}, C7 l = .ok es -> es.length = l.length /\ JA es /\ ∀ c : Int, (∀ x ∈ l, c < x.ind) -> ∀ y ∈ es, c < y.col
 | [], es, h => by
  rw [C7] at h; injection h with h; subst h
  exact ⟨rfl, (fun x hx => by cases hx), fun c _ y hy => by cases hy⟩
 | x :: r, es, h => by
  rw [C7] at h
  split at h
  ·cases h
  ·rename_i hne
   cases hr : C7 r with
   | bad no e => rw [hr] at h; cases h
   | ok es' =>
    rw [hr] at h
    injection h with h
    subst h
    obtain ⟨h1, h2, h3⟩ := EX hr
    refine ⟨by simp [h1], fun y hy => ?_, fun c hc y hy => ?_⟩
    ·rcases List.mem_cons.1 hy with rfl | hy
     ·intro he
      have hne := Decidable.not_not.1 hne
      have he : (C0 x.s).1.map Kq = [] := he
      rw [List.map_eq_nil_iff] at he
      unfold B9 at hne
      simp only [he, and_true] at hne
      split at hne
      ·omega
      ·rename_i h0; exact h0 (by omega)
     ·exact h2 y hy
    ·rcases List.mem_cons.1 hy with rfl | hy
     ·exact hc x List.mem_cons_self
     ·exact h3 c (fun z hz => hc z (List.mem_cons_of_mem _ hz)) y hy
theorem Ly : ∀ {l : List Hi} {no e : Int}, C7 l = .bad no e -> e ≠ 0
 | [], no, e, h => by rw [C7] at h; cases h
 | x :: r, no, e, h => by
  rw [C7] at h
  split at h
  ·rename_i hne; injection h with _ h; rw [<- h]; exact hne
  ·cases hr : C7 r with
   | bad no' e' => rw [hr] at h; injection h with _ h; rw [<- h]; exact Ly hr
   | ok es => rw [hr] at h; cases h
theorem RQ (k j : Int) (b : BR) (hb : b ≠ .out) (h0 : ∀ no e, b = .bad no e -> e ≠ 0) : ((D3 b).2.2 = 0 /\ D3 (LU k j b) = D3 b /\ (D3 b).2.1 = 0) \/ (D3 (LU k j b) = (CL, (D3 b).2.1 + j, (D3 b).2.2) /\ (D3 b).2.2 ≠ 0) := by
 cases b with
 | ok t rest =>
  cases rest with
  | nil => exact .inl ⟨rfl, rfl, rfl⟩
  | cons x r => exact .inr ⟨rfl, by show (92 : Int) ≠ 0; decide⟩
 | bad no e => exact .inr ⟨rfl, h0 no e rfl⟩
 | out => exact absurd rfl hb
theorem V3 {F : Nat} {l : List Hi} (k j : Int) (hk : 0 <= k) (h : ∀ x ∈ l, 0 <= x.ind /\ x.ind + k <= 8000) (hF : ∀ es, C7 l = .ok es -> 4 * Dw es + 2 <= F) :
  ((AL F l).2.2 = 0 /\ AL F (l.map (QH k j)) = AL F l /\ (AL F l).2.1 = 0) \/ (AL F (l.map (QH k j)) = (CL, (AL F l).2.1 + j, (AL F l).2.2) /\ (AL F l).2.2 ≠ 0) := by
 have h1 : Lq l = C7 l := Fn fun x hx => by have := h x hx; omega
 have h2 : Lq (l.map (QH k j)) = (C7 l).sh k j := by
  rw [<- NE]
  refine Fn fun x hx => ?_
  obtain ⟨y, hy, rfl⟩ := List.mem_map.1 hx
  have := h y hy
  show 0 <= y.ind + k /\ y.ind + k <= 8000
  omega
 unfold AL
 rw [h1, h2]
 cases ho : C7 l with
 | bad no e => exact .inr ⟨rfl, Ly ho⟩
 | ok es =>
  simp only [J8.sh]
  unfold B2
  cases es with
  | nil => exact .inl ⟨rfl, rfl, rfl⟩
  | cons x r =>
   rw [if_neg (by simp), if_neg (by simp)]
   obtain ⟨_, hfull, hcol⟩ := EX ho
   have hc := hcol (-1) (fun y hy => by have := h y hy; omega)
   have hm : A8 F (-1) 1 ((x :: r).map (DR k j)) = A8 F (-1 + k) 1 ((x :: r).map (DR k j)) := (R3 F).1 _ _ (fun y hy => by
    obtain ⟨z, hz, rfl⟩ := List.mem_map.1 hy
    have := hc z hz
    show -1 < z.col + k ↔ -1 + k < z.col + k
    omega)
   rw [hm, (S6 k j F).1]
   refine RQ k j _ ((NV F).1 _ _ _ hfull (by simp) (hF _ ho)) (fun no e he => ?_)
   have hD := (NB F).1 (-1) 1 (x :: r)
   rw [he] at hD
   exact hD.1
theorem O8 {F : Nat} {no : Int} {x0 : En} {l : List Hi} {es : List En} (h : ∀ x ∈ l, 0 <= x.ind) (ho : C7 l = .ok es) (hF : 4 * Dw es + 2 <= F) :
  (∃ t, (B2 F es) = (t, 0, 0) /\ Ak t <= 24 /\ ((Ak t < 24 /\ Ap (F + 1) no 0 2 (es.map (DR 1 0)) = .ok t []) \/ (Ak t = 24 /\ ∃ n2, Ap (F + 1) no 0 2 (es.map (DR 1 0)) = .bad n2 73))) ∨
   ((B2 F es).2.2 ≠ 0 /\ ((∃ n2 e2, Ap (F + 1) no 0 2 (es.map (DR 1 0)) = .bad n2 e2 /\ e2 ≠ 0) \/ ∃ t y r, Ap (F + 1) no 0 2 (es.map (DR 1 0)) = .ok t (y :: r) /\ 0 < y.col)) := by
 obtain ⟨_, hfull, hcol⟩ := EX ho
 have hc := hcol (-1) (fun y hy => by have := h y hy; omega)
 cases es with
 | nil =>
  refine .inl ⟨CL, rfl, by rw [DD]; omega, .inl ⟨by rw [DD]; omega, ?_⟩⟩
  rw [List.map_nil, Ap]; rfl
 | cons x r =>
  have hb : Ap (F + 1) no 0 2 ((x :: r).map (DR 1 0)) = LU 1 0 (A8 F (-1) 2 (x :: r)) := by
   rw [List.map_cons, Ap]
   have hx := hc x List.mem_cons_self
   rw [if_pos (show (0 : Int) < (DR 1 0 x).col by show (0 : Int) < x.col + 1; omega)]
   exact (S6 1 0 F).1 (-1) 2 (x :: r)
  have hw : B2 F (x :: r) = D3 (A8 F (-1) 1 (x :: r)) := by unfold B2; rw [if_neg (by simp)]
  have hout := (NV F).1 (-1) 1 (x :: r) hfull (by simp) hF
  have hsuf := (suffix F).1 (-1) 1 x r
  rw [hb, hw]
  have hD := (NB F).1 (-1) 1 (x :: r)
  revert hD hout hsuf
  cases A8 F (-1) 1 (x :: r) with
  | out => exact fun h => absurd rfl h
  | bad n2 e2 =>
   intro _ _ hD
   obtain ⟨h1, no', e', h2, h3⟩ := hD
   rw [show (1 : Nat) + 1 = 2 from rfl] at h2
   rw [h2]
   exact .inr ⟨h1, .inl ⟨_, e', rfl, h3⟩⟩
  | ok t rest =>
   intro _ hs hD
   obtain ⟨h1, h2⟩ := hD
   rw [show (1 : Nat) + 1 = 2 from rfl] at h2
   cases rest with
   | nil =>
    refine .inl ⟨t, rfl, by omega, ?_⟩
    rcases h2 with ⟨h3, h4⟩ | ⟨h3, n', h4⟩
    ·rw [h4]; exact .inl ⟨by omega, rfl⟩
    ·rw [h4]; exact .inr ⟨by omega, _, rfl⟩
   | cons y r2 =>
    refine .inr ⟨by show (92 : Int) ≠ 0; decide, ?_⟩
    rcases h2 with ⟨h3, h4⟩ | ⟨h3, n', h4⟩
    ·rw [h4]
     refine .inr ⟨t, DR 1 0 y, r2.map (DR 1 0), rfl, ?_⟩
     have := hc y (List.mem_cons_of_mem _ ((hs t (y :: r2) rfl).subset List.mem_cons_self))
     show 0 < y.col + 1
     omega
    ·rw [h4]; exact .inl ⟨_, 73, rfl, by decide⟩
def I2 (key : Bool) : Hi := ⟨0, 0, if key then [107, 58] else [45]⟩
def Pm (key : Bool) (t : Tr) : Tr := if key then BJ [⟨3, 0, ⟨#[107]⟩⟩] [t] else BA [t]
def Ea (key : Bool) : En := ⟨0, 0, if key then [⟨1, [107], 0⟩, ⟨6, [], 1⟩] else [⟨5, [], 0⟩]⟩
theorem P1 : ∀ key, B9 (I2 key).s = ((Ea key).l, 0)
 | true => by kernel_rfl
 | false => by kernel_rfl
theorem Es : Bp (Ea true).l = .key /\ Co (Ea true).l = (⟨3, 0, ⟨#[107]⟩⟩, 0) /\ Bp (Ea false).l = .dash := ⟨by kernel_rfl, by kernel_rfl, by kernel_rfl⟩
def Py (key : Bool) : BR -> BR
 | .ok t [] => .ok (Pm key t) []
 | .ok t (y :: r) => CR 0 (Pm key t) y r
 | b => b
theorem Oz (F : Nat) (key : Bool) (es : List En) (hc : ∀ y ∈ es, 0 < y.col) (hb : ∀ t rest, Ap (F + 1) 0 0 2 es = .ok t rest -> rest <:+ es) : A8 (F + 4) (-1) 1 (Ea key :: es) = Py key (Ap (F + 1) 0 0 2 es) := by
 have hy : ∀ t y r, Ap (F + 1) 0 0 2 es = .ok t (y :: r) -> ¬ (y.col = (Ea key).col /\ True) := fun t y r h hh => by
  have := hc y ((hb t _ h).subset List.mem_cons_self)
  have h0 : y.col = 0 := hh.1
  omega
 rw [A8]
 (try simp only)
 rw [if_neg (by decide)]
 cases key with
 | false =>
  rw [Es.2.2]
  simp only
  rw [Bn]
  simp only
  rw [if_pos ⟨trivial, Es.2.2⟩, AQ, if_pos (by rfl)]
  show (Ap (F + 1) 0 0 2 es).bind _ = _
  revert hy
  cases Ap (F + 1) 0 0 2 es with
  | out => exact fun _ => rfl
  | bad no e => exact fun _ => rfl
  | ok t rest =>
   intro hy
   cases rest with
   | nil => simp only [BR.bind]; rw [Bn]; rfl
   | cons y r =>
    simp only [BR.bind]
    rw [Bn]
    (try simp only)
    rw [if_neg (fun hh => hy t y r rfl ⟨hh.1, trivial⟩)]
    rfl
 | true =>
  rw [Es.1]
  simp only
  rw [AD]
  simp only
  rw [if_pos ⟨trivial, Es.1⟩, Es.2.1]
  simp only
  rw [if_neg (by decide), Bl]
  show (match Bp [] with | .name s => D7 0 s (Ap (F + 1) 0 0 2 es) | _ => if (Ea true).l.length = 2 then Ap (F + 1) 0 0 2 es else _).bind _ = _
  rw [show Bp [] = .plain from by kernel_rfl]
  simp only
  rw [if_pos (by rfl)]
  revert hy
  cases Ap (F + 1) 0 0 2 es with
  | out => exact fun _ => rfl
  | bad no e => exact fun _ => rfl
  | ok t rest =>
   intro hy
   cases rest with
   | nil => simp only [BR.bind]; rw [AD]; rfl
   | cons y r =>
    simp only [BR.bind]
    rw [AD]
    (try simp only)
    rw [if_neg (fun hh => hy t y r rfl ⟨hh.1, trivial⟩)]
    rfl
theorem Vr {F : Nat} {l : List Hi} (key : Bool) (h : ∀ x ∈ l, 0 <= x.ind /\ x.ind <= 7000) (hF : ∀ es, C7 l = .ok es -> 4 * Dw es + 2 <= F) :
  ((AL F l).2.2 ≠ 0 /\ (AL (F + 4) (I2 key :: l.map (QH 1 0))).2.2 ≠ 0) ∨
   ((AL F l).2.2 = 0 /\ Ak (AL F l).1 <= 24 /\ ((Ak (AL F l).1 < 24 /\ AL (F + 4) (I2 key :: l.map (QH 1 0)) = (Pm key (AL F l).1, 0, 0)) \/ (Ak (AL F l).1 = 24 /\ (AL (F + 4) (I2 key :: l.map (QH 1 0))).2.2 = 73))) := by
 have h1 : Lq l = C7 l := Fn fun x hx => by have := h x hx; omega
 have h2 : Lq (I2 key :: l.map (QH 1 0)) = ((C7 l).sh 1 0).cons (Ea key) := by
  rw [Fn, C7, P1]
  ·simp only
   rw [if_neg (by decide), NE]
   rfl
  ·intro x hx
   rcases List.mem_cons.1 hx with rfl | hx
   ·exact ⟨by show (0 : Int) <= 0; omega, by show (0 : Int) <= 8000; omega⟩
   ·obtain ⟨y, hy, rfl⟩ := List.mem_map.1 hx
    have := h y hy
    show 0 <= y.ind + 1 /\ y.ind + 1 <= 8000
    omega
 unfold AL
 rw [h1, h2]
 cases ho : C7 l with
 | bad no e =>
  left
  refine ⟨?_, ?_⟩
  all_goals
   show e ≠ 0
   exact Ly ho
 | ok es =>
  simp only [J8.sh, J8.cons]
  obtain ⟨_, hfull, hcol⟩ := EX ho
  have hc := hcol (-1) (fun y hy => by have := h y hy; omega)
  have hc1 : ∀ y ∈ es.map (DR 1 0), 0 < y.col := fun y hy => by
   obtain ⟨z, hz, rfl⟩ := List.mem_map.1 hy
   have := hc z hz
   show 0 < z.col + 1
   omega
  have hnf := Oz F key (es.map (DR 1 0)) hc1 (fun t rest hh => (suffix (F + 1)).2.1 _ _ _ _ _ _ hh)
  have hw2 : B2 (F + 4) (Ea key :: es.map (DR 1 0)) = D3 (Py key (Ap (F + 1) 0 0 2 (es.map (DR 1 0)))) := by
   unfold B2; rw [if_neg (by simp), hnf]
  rw [hw2]
  rcases O8 (no := 0) (x0 := Ea key) (fun x hx => (h x hx).1) ho (hF es ho) with ⟨t, g1, g2, g3⟩ | ⟨g1, g2⟩
  ·rw [g1]
   refine .inr ⟨rfl, g2, ?_⟩
   rcases g3 with ⟨g3, g4⟩ | ⟨g3, n2, g4⟩
   ·rw [g4]; exact .inl ⟨g3, rfl⟩
   ·rw [g4]; exact .inr ⟨g3, rfl⟩
  ·refine .inl ⟨g1, ?_⟩
   rcases g2 with ⟨n2, e2, g2, g3⟩ | ⟨t, y, r, g2, g3⟩
   ·rw [g2]; exact g3
   ·rw [g2]
    show (D3 (CR 0 (Pm key t) y r)).2.2 ≠ 0
    unfold CR
    rw [if_neg (by omega), if_pos g3]
    exact (by decide : (92 : Int) ≠ 0)
end
end Go.Proofs.YtaogfdffgdglkaaGreatDoor
