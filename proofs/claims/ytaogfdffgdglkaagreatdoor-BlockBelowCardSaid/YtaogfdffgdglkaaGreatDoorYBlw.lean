/- What is proved: the law BlockBelow returns true, whatever comes in. -/
import Derived.Test.YtaogfdffgdglkaaGreatDoorYxs
import Derived.Deep.Cut
namespace Go.Proofs.YtaogfdffgdglkaaGreatDoor
set_option maxRecDepth 100000
set_option maxHeartbeats 8000000
open Go Go.RowKit Go.Lib
set_option linter.unusedSimpArgs false
set_option linter.unusedVariables false
def fsB (key : Bool) : ByteArray := if key then ⟨#[107, 58]⟩ else ⟨#[45]⟩
def kdB (key : Bool) : Int := if key then 2 else 1
def ksB (key : Bool) : List Sc := if key then [⟨3, 0, ⟨#[107]⟩⟩] else []
theorem wantB_mk (key : Bool) (t : Tr) : Pm key t = .mk (kdB key) ⟨#[]⟩ CF (ksB key) [t] := by cases key <;> rfl
theorem first_toLn (key : Bool) (ys : List Sc) : ((⟨0, 0, fsB key⟩ : Sc) :: ys.map (Le 1 0)).map B7 = I2 key :: (ys.map B7).map (QH 1 0) := by
 rw [List.map_cons, V7]; cases key <;> rfl
theorem lit_any {w : World} {N c : Nat} {t : Tr} {S : Nat -> Prop} {ty : TypeId} {v0 v1 v2 v3 v4 v5 v6 : Value} {k : Int} {ks : List Sc} {KA : Option Addr} {kl kc : Nat} (hb : w.heap[N]? = some (.cells #[v0, v1, v2, v3, v4, v5, v6] ty)) (h : Ao w S t (.agg #[v0, v1, v2, v3, v4, v5, v6])) (hk : Cy w (.slice KA kl kc) ks) :
  Ao w (fun _ => True) (.mk k ⟨#[]⟩ CF ks [t]) (.agg #[.int .i64 k, .string ⟨#[]⟩, .int .i64 0, .int .i64 0, .string ⟨#[]⟩, .slice KA kl kc, .slice (some ⟨N, 0, none⟩) 1 c]) := by
 have h1 := Wc (c := c) hb h
 unfold BA at h1
 rw [Ao] at h1 |-
 obtain ⟨kv, A, cap, e, _, _, h2⟩ := h1
 simp only [Value.agg.injEq, Array.mk.injEq, List.cons.injEq, and_true, true_and, Value.slice.injEq] at e
 obtain ⟨_, _, _, _, rfl, _, rfl⟩ := e
 exact ⟨.slice KA kl kc, some ⟨N, 0, none⟩, c, rfl, hk, fun _ _ _ _ _ _ => trivial, h2⟩
theorem cell_set_ne {w : World} {a p : Addr} (u : Value) (h : p.block ≠ a.block) : (w.setCell a u).cell? p = w.cell? p := by
 unfold World.cell?
 rw [Bh w a u p.block h]
theorem Cy.set {w : World} {A : Option Addr} {n c G j : Nat} {ks : List Sc} (h : Cy w (.slice A n c) ks) (hA : ∀ b o, A = some ⟨b, o, none⟩ -> b ≠ G) (u : Value) : Cy (w.setCell ⟨G, j, none⟩ u) (.slice A n c) ks := by
 obtain ⟨A', c', e, hc⟩ := h
 injection e with e1 e2 e3
 subst e1 e2 e3
 refine ⟨A, c, rfl, fun k hk => ?_⟩
 obtain ⟨b, o, ha, hl, h0, h1, h2⟩ := hc k hk
 have hne := hA b o ha
 exact ⟨b, o, ha, by simpa [World.setCell] using hl, (cell_set_ne u hne).trans h0, (cell_set_ne u hne).trans h1, (cell_set_ne u hne).trans h2⟩
theorem Cy.form {w : World} {v : Value} {ks : List Sc} (h : Cy w v ks) : ∃ KA kl kc, v = .slice KA kl kc := by
 obtain ⟨A, c, h, _⟩ := h
 exact ⟨_, _, _, h⟩
def okI (x : Sc) : Bool := !(decide (x.num < 0) || decide (7000 < x.num))
theorem okI_iff (x : Sc) : okI x = true ↔ 0 <= x.num /\ x.num <= 7000 := by
 unfold okI; simp
theorem take_allI {ys : List Sc} {k : Nat} (h : k < ys.length) : (ys.take (k + 1)).all okI = ((ys.take k).all okI && okI (ys.getD k CF)) := by
 rw [List.take_succ_eq_append_getElem h, List.all_append]
 simp [List.getD, List.getElem?_eq_getElem h]
def MidB (key : Bool) (w2 wx : World) : Prop := ∃ (KA : Option Addr) (kl kc : Nat), Below w2.heap.size w2 wx /\ wx.heap[w2.heap.size]? = some (.cells #[.int .i64 0, .int .i64 0, .string (fsB key)] 40) ∧
 wx.heap[w2.heap.size + 1]? = some (.cells #[.int .i64 (kdB key), .string ⟨#[]⟩, .int .i64 0, .int .i64 0, .string ⟨#[]⟩, .slice KA kl kc, .slice none 0 0] 30) /\ Cy wx (.slice KA kl kc) (ksB key) /\ ∀ b o, KA = some ⟨b, o, none⟩ -> b ≠ w2.heap.size + 1
theorem BlockBelow_any (v : Value) (key : Bool) (xs : List Sc) (w : World) (hxx : Cy w v xs /\ ∀ x ∈ xs, -9223372036854775808 <= x.kind /\ x.kind <= 9223372036854775807) (hT : Bz w) (hE : Cb w) (hL : Ot w) :
  Calls Tryz.prog 6 #[v, .bool key] w fun e w' => e = .returned (.bool true) /\ Below w.heap.size w w' := by
 obtain ⟨hx, hnum⟩ := hxx
 have hS := Uf w hT hE hL
 have hF := fun wx (hb : Below w.heap.size w wx) => Vs v xs wx (hx.below hb)
 have hR := fun F (hF1 : F <= 1000000) v xs wx (hb : Below w.heap.size w wx) hx hl hs hF => Qp F hF1 v xs wx hx hl hs hF (hT.below hb) (hE.below hb)
 obtain ⟨ys, hys⟩ : ∃ ys, (xs.take 40).map Ip = ys := ⟨_, rfl⟩
 have hlen := VR xs
 have hsz := Wk xs
 have hkd : ∀ x ∈ (xs.take 40).map Ip, -9223372036854775808 <= x.kind /\ x.kind <= 9223372036854775807 := fun x hx => by
  obtain ⟨y, hy, rfl⟩ := List.mem_map.1 hx
  exact hnum y (List.mem_of_mem_take hy)
 rw [hys] at hlen hsz hkd
 simp only [hys] at hF
 obtain ⟨q, hq⟩ : ∃ q, ys.length = q := ⟨_, rfl⟩
 rw [hq] at hlen
 have HQ := hid hq
 have HSZ := hid hsz
 have HKD := hid hkd
 clear hys hT hE hL hx hsz hq hnum hkd
 go_enter Tryz.func6, Tryz.ntmps6
 go_wp2_with fail
 refine hS.mono ?_
 rintro e w1 ⟨rfl, hb1⟩
 clear hS
 go_wp2_with fail
 refine (hF w1 hb1).mono ?_
 rintro e w2 ⟨u, rfl, hu, hb2⟩
 replace hb2 := hb1.trans (hb2.mono hb1.size)
 have hus := hu.sl
 obtain ⟨A, ca, rfl, hA⟩ := hus
 rw [HQ.out] at hA |-
 have HA := hid hA
 have HU := hid hu
 have HB2 := hid hb2
 clear hF hA hu hb1 hb2
 go_wp2
 go_loopw [6] (fun i wr => ∃ k : Nat, k <= q /\ i = .int .i64 k /\ wr = w2 /\ Hid ((ys.take k).all okI = true)) (fun i _ => q - (intOf i).toNat)
 case atStart => exact ⟨0, by omega, rfl, rfl, hid rfl⟩
 case round =>
  obtain ⟨k, hk, rfl, rfl, HO⟩ := hrel
  by_cases hlt : k < q
  ·have hki : (k : Int) < (q : Int) := by omega
   obtain ⟨a, o, rfl, ha, a0, a1, a2⟩ := HA.out k hlt
   have htk := take_allI (ys := ys) (k := k) (by rw [HQ.out]; exact hlt)
   obtain ⟨⟨x0, x1, x2⟩, hx⟩ : ∃ x, ys.getD k CF = x := ⟨_, rfl⟩
   rw [hx] at a0 a1 a2 htk
   dsimp only at a0 a1 a2
   have HTK := hid htk
   clear a0 a2 hx htk
   by_cases h1 : x1 < 0
   ·clear HTK
    go_wp2
    go_ret
    exact ⟨rfl, HB2.out⟩
   ·by_cases h2 : 7000 < x1
    ·clear HTK
     go_wp2
     go_ret
     exact ⟨rfl, HB2.out⟩
    ·have HO2 := hid (show (ys.take (k + 1)).all okI = true by
      rw [HTK.out, HO.out]; unfold okI; simp; omega)
     go_wp2
     go_roundw
     case rel => exact ⟨k + 1, by omega, by go_num, by first | trivial | rfl, HO2⟩
     case measure => simp only [intOf]; omega
  ·have hki : ¬ (k : Int) < (q : Int) := by omega
   have HALL := hid (show ∀ x ∈ ys, 0 <= x.num /\ x.num <= 7000 from fun x hx => by
    have := HO.out
    rw [List.take_of_length_le (by rw [HQ.out]; omega)] at this
    exact (okI_iff x).1 (List.all_eq_true.1 this x hx))
   have hfu := VO (ys := ys) (n := 40) (by rw [HQ.out]; exact hlen) HSZ.out
   have hys2 : Cy wr (.slice A q ca) ys := by have := HU.out.sl; rw [HQ.out] at this; exact this
   have hlq : ys.length <= 1000000 := by rw [HQ.out]; omega
   have hR1 := fun wx hb hx => hR 100000 (by decide) (.slice A q ca) ys wx hb hx hlq (fun x hx => by have := HSZ.out x hx; omega) (fun es he => by have := hfu es he; omega)
   obtain ⟨zs, hzs⟩ : ∃ zs, (⟨0, 0, fsB key⟩ : Sc) :: ys.map (Le 1 0) = zs := ⟨_, rfl⟩
   have hzl : zs.length = q + 1 := by rw [<- hzs, List.length_cons, List.length_map, HQ.out]
   have hzz : ∀ x ∈ zs, x.str.size <= 400 := fun x hx => by
    rw [<- hzs] at hx
    rcases List.mem_cons.1 hx with rfl | hx
    ·show (fsB key).size <= 400; cases key <;> decide
    ·obtain ⟨y, hy, rfl⟩ := List.mem_map.1 hx; exact HSZ.out y hy
   have hfz := VO (ys := zs) (n := 41) (by omega) hzz
   have hRz := fun v wx hb hx => hR (100000 + 4) (by decide) v zs wx hb hx (by omega) (fun x hx => by have := hzz x hx; omega) (fun es he => by have := hfz es he; omega)
   have hlaw := Vr (F := 100000) (l := ys.map B7) key (fun x hx => by obtain ⟨y, hy, rfl⟩ := List.mem_map.1 hx; exact HALL.out y hy) (fun es he => by have := hfu es he; omega)
   rw [<- first_toLn, hzs] at hlaw
   have hMv := fun wx hx => Vu (.slice A q ca) ys 1 0 wx hx (by rw [HQ.out]; omega) (fun x hx => by have := HALL.out x hx; have := HKD.out x hx; omega)
   have hsm := VW (F := 100000) (M := 1000000) (l := ys.map B7) (fun es he => by have := hfu es he; omega)
   obtain ⟨⟨t1, n1, e1⟩, hr1⟩ : ∃ r, AL 100000 (ys.map B7) = r := ⟨_, rfl⟩
   obtain ⟨⟨t2, n2, e2⟩, hr2⟩ : ∃ r, AL (100000 + 4) (zs.map B7) = r := ⟨_, rfl⟩
   rw [hr1] at hR1 hlaw hsm
   rw [hr2] at hRz hlaw
   dsimp only at hlaw hsm
   have HLAW := hid hlaw
   have HSM := hid hsm
   have HZ := hid (Ai hzs hzl)
   clear HO hfu hr1 hr2 hR HALL hlaw hsm hzs hzl hzz hfz HSZ HKD HA
   go_upto_if 42 with fail
   go_cut [] from 43 (fun wx => MidB key wr wx)
   case first =>
    cases key with
    | true =>
     have h1 := Wn wr (.cells #[.int .i64 0, .int .i64 0, .string ⟨#[107, 58]⟩] 40)
     have h2 := Wn (wr.alloc (.cells #[.int .i64 0, .int .i64 0, .string ⟨#[107, 58]⟩] 40)) (.cells #[.int .i64 2, .string ⟨#[]⟩, .int .i64 0, .int .i64 0, .string ⟨#[]⟩, .slice (some ⟨wr.heap.size + 1 + 1, 0, none⟩) 1 1, .slice none 0 0] 30)
     have h3 := Wn ((wr.alloc (.cells #[.int .i64 0, .int .i64 0, .string ⟨#[107, 58]⟩] 40)).alloc (.cells #[.int .i64 2, .string ⟨#[]⟩, .int .i64 0, .int .i64 0, .string ⟨#[]⟩, .slice (some ⟨wr.heap.size + 1 + 1, 0, none⟩) 1 1, .slice none 0 0] 30)) (.cells #[.int .i64 3, .int .i64 0, .string ⟨#[107]⟩] 26)
     simp only [World.size_alloc] at h2 h3
     have st : ∀ (X : World) (o : Obj), Below X.heap.size X (X.alloc o) := fun X o => (Bq _ X).alloc Nr o
     have HM := hid (show MidB true wr _ from ⟨_, _, _, ((st wr _).alloc (by simp) _).alloc (by simp; omega) _, Aa (Aa h1 (st _ _)) (st _ _), Aa h2 (st _ _), We h3, fun b o e => by injection e with e; injection e with e; omega⟩)
     clear h1 h2 h3 st
     go_wp2
     go_meet
     case rel => exact HM.out
    | false =>
     have h1 := Wn wr (.cells #[.int .i64 0, .int .i64 0, .string ⟨#[45]⟩] 40)
     have h2 := Wn (wr.alloc (.cells #[.int .i64 0, .int .i64 0, .string ⟨#[45]⟩] 40)) (.cells #[.int .i64 1, .string ⟨#[]⟩, .int .i64 0, .int .i64 0, .string ⟨#[]⟩, .slice none 0 0, .slice none 0 0] 30)
     simp only [World.size_alloc] at h2
     have st : ∀ (X : World) (o : Obj), Below X.heap.size X (X.alloc o) := fun X o => (Bq _ X).alloc Nr o
     have HM := hid (show MidB false wr _ from ⟨_, _, _, (st wr _).alloc (by simp) _, Aa h1 (st _ _), h2, Cy.nil _, fun b o e => by cases e⟩)
     clear h1 h2 st
     go_wp2
     go_meet
     case rel => exact HM.out
   case rest =>
    obtain ⟨KA, kl, kc, hbm, hF0, hG0, hK0, hKG⟩ := hcut
    have hbc := HB2.out.trans (hbm.mono HB2.out.size)
    have hR2 := hR1 wc hbc (hys2.below hbm)
    have hszm := hbm.size
    have hGl := (Gl hG0)
    go_wp2_with fail
    refine hR2.mono ?_
    rintro e w3 ⟨tv, rfl, htv, hb3⟩
    obtain ⟨tk, tnm, xk, xn, zt, KA0, kl0, kc0, TA, tl, tc, rfl⟩ := htv.form
    have hqA : Below w3.heap.size w3 (w3.alloc (.cells #[.int .i64 tk, .string tnm, .int .i64 xk, .int .i64 xn, .string zt, .slice KA0 kl0 kc0, .slice TA tl tc] 30)) := (Bq _ _).alloc Nr _
    have hqB : Below w3.heap.size w3 ((w3.alloc (.cells #[.int .i64 tk, .string tnm, .int .i64 xk, .int .i64 xn, .string zt, .slice KA0 kl0 kc0, .slice TA tl tc] 30)).alloc (.cells #[.int .i64 0, .int .i64 0, .string (fsB key)] 40)) := hqA.alloc (by simp) _
    have hT5 := Wn w3 (.cells #[.int .i64 tk, .string tnm, .int .i64 xk, .int .i64 xn, .string zt, .slice KA0 kl0 kc0, .slice TA tl tc] 30)
    have hL5 := Wn (w3.alloc (.cells #[.int .i64 tk, .string tnm, .int .i64 xk, .int .i64 xn, .string zt, .slice KA0 kl0 kc0, .slice TA tl tc] 30)) (.cells #[.int .i64 0, .int .i64 0, .string (fsB key)] 40)
    rw [World.size_alloc] at hL5
    have hb4 := hbc.trans (hb3.mono hbc.size)
    have hs3 : wc.heap.size <= w3.heap.size := hb3.size
    have hF3 := Aa hF0 hb3
    have HD := hid (Ai (hbc.trans ((hb3.trans (hqB.mono hb3.size)).mono hbc.size)) (Ai ((hys2.below hbm).below (hb3.trans (hqB.mono hb3.size))) (Ai (htv.below hqB) (Ai (Aa hG0 (hb3.trans (hqB.mono hb3.size))) (Ai (hK0.below (hb3.trans (hqB.mono hb3.size))) (Aa hT5 ((Bq _ _).alloc Nr (.cells #[.int .i64 0, .int .i64 0, .string (fsB key)] 40))))))))
    have HL5 := hid hL5
    have hFl : wr.heap.size < w3.heap.size := by omega
    obtain ⟨f0, f1, f2, _⟩ := Az hF3
    clear hR1 hR2 hb3 hqA hqB htv hF0 hG0 hK0 hys2 hbm hbc hT5 hL5 hF3 hb4
    go_wp2_with (at_builtin; go_must (refine OY rfl _ _ rfl (w3.heap.size + 1 + 1) (w3.heap.size + 1 + 1) (.slice none 0 0) (.slice (some ⟨w3.heap.size + 1, 0, none⟩) 1 1) [] [⟨0, 0, fsB key⟩] [⟨0, 0, fsB key⟩] 1 ((w3.alloc (.cells #[.int .i64 tk, .string tnm, .int .i64 xk, .int .i64 xn, .string zt, .slice KA0 kl0 kc0, .slice TA tl tc] 30)).alloc (.cells #[.int .i64 0, .int .i64 0, .string (fsB key)] 40)) (by rfl) (by rfl) (World.ownsRow_nil _ _ _ _) (IR.lit HL5.out (by omega)) (by simp) (by simp) (by simp) rfl rfl ?_))
    rintro va wa hown hba ⟨Aav, caa, rfl, hca⟩
    have hXs : ((w3.alloc (.cells #[.int .i64 tk, .string tnm, .int .i64 xk, .int .i64 xn, .string zt, .slice KA0 kl0 kc0, .slice TA tl tc] 30)).alloc (.cells #[.int .i64 0, .int .i64 0, .string (fsB key)] 40)).heap.size = w3.heap.size + 1 + 1 := by simp
    obtain ⟨X, hX⟩ : ∃ z, (w3.alloc (.cells #[.int .i64 tk, .string tnm, .int .i64 xk, .int .i64 xn, .string zt, .slice KA0 kl0 kc0, .slice TA tl tc] 30)).alloc (.cells #[.int .i64 0, .int .i64 0, .string (fsB key)] 40) = z := ⟨_, rfl⟩
    rw [hX] at HD hXs hba
    rw [<- hXs] at hba hown
    obtain ⟨d1, d2, d3, d4, d5, d6⟩ := HD.out
    have hMa := hMv wa (d2.below hba)
    have HXS := hid hXs
    have hsz0 : X.heap.size <= wa.heap.size := hba.size
    clear hMv hX hXs HL5 HD f0 f1 f2 d2
    go_wp2_with fail
    refine hMa.mono ?_
    rintro e w6 ⟨u6, rfl, hu6, hb6⟩
    obtain ⟨A6, c6, rfl, hc6⟩ := hu6.rm (n := q) (by rw [List.length_map, HQ.out])
    have hown6 := hown.below hb6
    have hsrc := hu6.src Nr
    have hsz6 : X.heap.size <= w6.heap.size := Nat.le_trans hsz0 hb6.size
    have HA6 := hid (Ai hown6 hsrc)
    clear hMa hown hu6 hown6 hsrc
    go_wp2_with (at_builtin; go_must (refine OY rfl _ _ rfl X.heap.size w6.heap.size (.slice Aav 1 caa) (.slice A6 q c6) [⟨0, 0, fsB key⟩] (ys.map (Le 1 0)) zs (q + 1) w6 (by rfl) (by rfl) HA6.out.1 HA6.out.2 hsz6 (by simp) (by rw [List.length_map, HQ.out]; omega) (by rw [<- HZ.out.1]; rfl) HZ.out.2 ?_))
    rintro vb wb hownb hbb ⟨Ab, cb, rfl, hcb⟩
    have hXb : Below X.heap.size X wb := hba.trans ((hb6.mono hsz0).trans hbb)
    have hRb := hRz (.slice Ab (q + 1) cb) wb (d1.trans (hXb.mono d1.size)) hownb.sl
    clear hRz HA6 hba hb6 hbb hownb hsz0 hsz6
    go_wp2_with fail
    refine hRb.mono ?_
    rintro e w7 ⟨tv7, rfl, htv7, hq7⟩
    obtain ⟨uk, unm, yk, yn, vs, KB0, ul, uc, UA, vl, vc, rfl⟩ := htv7.form
    have hX7 := hXb.trans (hq7.mono hXb.size)
    have hG7 := Aa d4 hX7
    have hT7 := Aa d6 hX7
    have hK7 := d5.below hX7
    have htv8 := d3.below hX7
    have hb7 := d1.trans (hX7.mono d1.size)
    have hXz : X.heap.size <= w7.heap.size := hX7.size
    rw [HXS.out] at hXz
    have hXw : X.heap.size <= wb.heap.size := hXb.size
    rw [HXS.out] at hXw
    clear hRb hXb hq7 d1 d3 d4 d5 d6 hX7
    rcases HLAW.out with ⟨h1, h2⟩ | ⟨rfl, h2, h3⟩
    ·have hne1 : (e1 != 0) = true := by simpa using h1
     have hne2 : (e2 != 0) = true := by simpa using h2
     have HB8 := hid (hb7.trans (((Bq _ w7).alloc Nr (.cells #[.int .i64 uk, .string unm, .int .i64 yk, .int .i64 yn, .string vs, .slice KB0 ul uc, .slice UA vl vc] 30)).mono hb7.size))
     clear HLAW h1 h2 htv7 htv8 hG7 hT7 hK7 hb7
     go_wp2
     go_ret
     exact ⟨by simp, HB8.out⟩
    ·obtain ⟨g0, g1, g2, g3, g4, g5, g6, _, _, _, _, _, _, f6⟩ := Ay hG7
     obtain ⟨k0, k1, k2, k3, k4, k5, k6, _⟩ := Ay hT7
     have hGw : wr.heap.size + 1 < w7.heap.size := by omega
     have hTw : w3.heap.size < w7.heap.size := by omega
     obtain ⟨G, hG⟩ : ∃ G, wr.heap.size + 1 = G := ⟨_, rfl⟩
     rw [hG] at g0 g1 g2 g3 g4 g5 g6 f6 hGw hG7 hGl hKG |-
     have hGT : G < w3.heap.size := by omega
     have hGg : wr.heap.size < G := by omega
     clear hG
     go_upto_region 20 with fail
     have ht7 : Af (fun k => k = G) w7.heap.size w7 (w7.setCell ⟨G, 6, none⟩ (.slice (some ⟨w7.heap.size + 1, 0, none⟩) 1 1)) := Af.setCell _ _ _ rfl
     have hG8 := heap_setCell_same w7 G 6 _ _ (.slice (some ⟨w7.heap.size + 1, 0, none⟩) 1 1) hG7
     have hT8 := (Bh w7 ⟨G, 6, none⟩ (.slice (some ⟨w7.heap.size + 1, 0, none⟩) 1 1) w3.heap.size (fun e => by have e : w3.heap.size = G := e; omega)).trans hT7
     have hK8 := hK7.set (G := G) (j := 6) hKG (.slice (some ⟨w7.heap.size + 1, 0, none⟩) 1 1)
     have htv9 := As (B4.of_turn (S := fun k => wc.heap.size <= k) ht7 (fun k hk hk2 => by have hk3 : k = G := hk; have hk4 : wc.heap.size <= k := hk2; omega)) _ _ htv8
     have huv9 := As (B4.of_turn (S := fun k => wb.heap.size <= k) ht7 (fun k hk hk2 => by have hk3 : k = G := hk; have hk4 : wb.heap.size <= k := hk2; omega)) _ _ htv7
     have hz7 : (w7.setCell ⟨G, 6, none⟩ (.slice (some ⟨w7.heap.size + 1, 0, none⟩) 1 1)).heap.size = w7.heap.size := by simp [World.setCell]
     have hb8 : Below w.heap.size w (w7.setCell ⟨G, 6, none⟩ (.slice (some ⟨w7.heap.size + 1, 0, none⟩) 1 1)) := ht7.below hb7 (fun k hk => by have hk3 : k = G := hk; have := HB2.out.size; omega) hb7.size Nr
     obtain ⟨Y7, hY7⟩ : ∃ z, w7.setCell ⟨G, 6, none⟩ (.slice (some ⟨w7.heap.size + 1, 0, none⟩) 1 1) = z := ⟨_, rfl⟩
     rw [hY7] at hG8 hT8 hK8 htv9 huv9 hz7 hb8 |-
     rw [<- hz7]
     clear hY7 ht7 htv7 htv8 hG7 hT7 hK7 hb7 g0 g1 g2 g3 g4 g5 g6 f6 k0 k1 k2 k3 k4 k5 k6 hXz hXw hKG
     have hq8 : Below Y7.heap.size Y7 ((Y7.alloc (.cells #[.int .i64 uk, .string unm, .int .i64 yk, .int .i64 yn, .string vs, .slice KB0 ul uc, .slice UA vl vc] 30)).alloc (.cells #[.int .i64 tk, .string tnm, .int .i64 xk, .int .i64 xn, .string zt, .slice KA0 kl0 kc0, .slice TA tl tc] 30)) := ((Bq _ _).alloc Nr _).alloc (by simp) _
     have hU9 := Aa (Wn Y7 (.cells #[.int .i64 uk, .string unm, .int .i64 yk, .int .i64 yn, .string vs, .slice KB0 ul uc, .slice UA vl vc] 30)) ((Bq _ (Y7.alloc (.cells #[.int .i64 uk, .string unm, .int .i64 yk, .int .i64 yn, .string vs, .slice KB0 ul uc, .slice UA vl vc] 30))).alloc Nr (.cells #[.int .i64 tk, .string tnm, .int .i64 xk, .int .i64 xn, .string zt, .slice KA0 kl0 kc0, .slice TA tl tc] 30))
     have hV9 := Wn (Y7.alloc (.cells #[.int .i64 uk, .string unm, .int .i64 yk, .int .i64 yn, .string vs, .slice KB0 ul uc, .slice UA vl vc] 30)) (.cells #[.int .i64 tk, .string tnm, .int .i64 xk, .int .i64 xn, .string zt, .slice KA0 kl0 kc0, .slice TA tl tc] 30)
     rw [World.size_alloc] at hV9
     have hG9 := Aa hG8 hq8
     have hT9 := Aa hT8 hq8
     have hW9 := lit_any (k := kdB key) (c := 1) hV9 (htv9.below hq8) (hK8.below hq8)
     rw [<- wantB_mk] at hW9
     have htv10 := htv9.below hq8
     have huv10 := huv9.below hq8
     have HB9 := hid (hb8.trans (hq8.mono hb8.size))
     obtain ⟨Y9, hY9⟩ : ∃ z, (Y7.alloc (.cells #[.int .i64 uk, .string unm, .int .i64 yk, .int .i64 yn, .string vs, .slice KB0 ul uc, .slice UA vl vc] 30)).alloc (.cells #[.int .i64 tk, .string tnm, .int .i64 xk, .int .i64 xn, .string zt, .slice KA0 kl0 kc0, .slice TA tl tc] 30) = z := ⟨_, rfl⟩
     rw [hY9] at hU9 hG9 hT9 hW9 htv10 huv10 HB9 |-
     clear hY9 hV9 hq8 hG8 hT8 hK8 htv9 huv9 hb8
     have hG10 : Y9.heap[G]? = some (.cells #[.int .i64 (kdB key), .string ⟨#[]⟩, .int .i64 0, .int .i64 0, .string ⟨#[]⟩, .slice KA kl kc, .slice (some ⟨Y7.heap.size + 1, 0, none⟩) 1 1] 30) := by rw [hz7]; exact hG9
     clear hG9 hz7
     have hD := TX t1 _ _ _ htv10 HSM.out (by omega)
     obtain ⟨x0, x1, x2, x3, x4, x5, x6, _⟩ := Ay hT9
     obtain ⟨y0, y1, y2, y3, y4, y5, y6, _⟩ := Ay hU9
     obtain ⟨z0, z1, z2, z3, z4, z5, z6, _⟩ := Ay hG10
     rcases h3 with ⟨hd, hr⟩ | ⟨hd, he⟩
     ·obtain ⟨rfl, rfl, rfl⟩ : t2 = Pm key t1 /\ n2 = 0 /\ e2 = 0 := by injection hr with h1 h3; injection h3 with h3 h4; exact ⟨h1, h3, h4⟩
      have hS1 := OK (Pm key t1) _ _ _ _ _ huv10 hW9 (by
       have hs := HSM.out
       cases key with
       | true => exact Sw (by simp) (by simp) (fun t ht => by rw [List.mem_singleton.1 ht]; exact hs)
       | false => exact R6 (by simp) (fun t ht => by rw [List.mem_singleton.1 ht]; exact hs))
      have hdi : ((Ak t1 : Nat) : Int) < 24 := by omega
      have hD2 := fun wx (hb : Below Y9.heap.size Y9 wx) => TX t1 _ _ _ (htv10.below hb) HSM.out (by omega)
      have HT9 := hid hT9
      clear HLAW h2 hr hd hD htv10 huv10 hW9 hG10 hU9 hT9
      go_wp2_with fail
      refine hS1.mono ?_
      rintro e w9 ⟨rfl, hq9⟩
      have hD3 := hD2 w9 hq9
      obtain ⟨x0, x1, x2, x3, x4, x5, x6, _⟩ := Ay (Aa HT9.out hq9)
      have HB10 := hid (HB9.out.trans (hq9.mono HB9.out.size))
      clear hS1 hq9 hD2 y0 y1 y2 y3 y4 y5 y6 z0 z1 z2 z3 z4 z5 z6
      go_wp2_with fail
      refine hD3.mono ?_
      rintro e w10 ⟨rfl, hq10⟩
      have HB11 := hid (HB10.out.trans (hq10.mono HB10.out.size))
      clear hD3 hq10
      go_wp2
      go_ret
      exact ⟨by simp, HB11.out⟩
     ·subst he
      have hdi : (24 : Int) <= ((Ak t1 : Nat) : Int) := by omega
      clear HLAW h2 hd htv10 huv10 hW9 hG10 hU9 hT9
      go_wp2_with fail
      refine hD.mono ?_
      rintro e w10 ⟨rfl, hq10⟩
      have HB11 := hid (HB9.out.trans (hq10.mono HB9.out.size))
      clear hD hq10
      go_wp2
      go_ret
      exact ⟨by simp, HB11.out⟩
end Go.Proofs.YtaogfdffgdglkaaGreatDoor
