/- What is proved: a part of the walk of the program and of its plain laws; no condition beside those that each theorem names. -/
import Derived.Test.YtaogfdffgdglkaaGreatDoorYxl
import Derived.Test.YtaogfdffgdglkaaGreatDoorYxm
import Derived.Test.YtaogfdffgdglkaaGreatDoorYa
namespace Go.Proofs.YtaogfdffgdglkaaGreatDoor
open Go Go.RowKit Go.Lib
set_option linter.unusedSimpArgs false
set_option linter.unusedVariables false
section
set_option maxRecDepth 100000
set_option maxHeartbeats 4000000
def B7 (x : Sc) : Hi := ⟨x.kind, x.num, x.str.data.toList⟩
theorem Ua : (Tryz.prog.info? 107).map (fun i => (i.zero, i.size, i.bytes)) = some (some (.agg #[.int .i64 0, .int .i64 0, .slice none 0 0]), 3, 40) := by kernel_rfl
abbrev Si := En × Value
def Dg (y : Si) : List Value := [.int .i64 y.1.no, .int .i64 y.1.col, y.2]
def JK (W : World) (S : Nat -> Prop) (l : List AV) (v : Value) : Prop := ∃ A c, v = .slice A l.length c /\ l.length <= c /\ AO W v l /\ Gx S v
theorem JK.wide {W W' : World} {S : Nat -> Prop} {l : List AV} {v : Value} (h : JK W S l v) (hw : B4 S W W') : JK W' S l v := by
 obtain ⟨A, c, hv, hc, ⟨A', c', hv', ht⟩, hf⟩ := h
 refine ⟨A, c, hv, hc, ⟨A', c', hv', fun k hk => ?_⟩, hf⟩
 obtain ⟨bb, o, ha, hlt, h0, h1, h2⟩ := ht k hk
 have hS : S bb := hf bb o _ c' (by rw [hv', ha]) (by omega)
 exact ⟨bb, o, ha, Nat.lt_of_lt_of_le hlt hw.1, hw.2 bb _ _ hS h0, hw.2 bb _ _ hS h1, hw.2 bb _ _ hS h2⟩
theorem JK.less {W : World} {S S' : Nat -> Prop} {l : List AV} {v : Value} (h : JK W S l v) (hss : ∀ b, b < W.heap.size -> S b -> S' b) : JK W S' l v := by
 obtain ⟨A, c, hv, hc, ⟨A', c', hv', ht⟩, hf⟩ := h
 refine ⟨A, c, hv, hc, ⟨A', c', hv', ht⟩, fun b o n c2 e hn => ?_⟩
 have e2 : l.length = n := by rw [hv] at e; injection e with _ e _
 obtain ⟨bb, o2, ha, hlt, _⟩ := ht 0 (by omega)
 have : bb = b := by
  rw [hv'] at e; injection e with e _ _
  rw [ha] at e; injection e with e; injection e
 subst this
 exact hss _ hlt (hf _ o n c2 e hn)
def TO (W : World) (S : Nat -> Prop) (evs : List Si) : Prop := ∀ y ∈ evs, JK W S y.1.l y.2
def J8.app (es : List En) : J8 -> J8
 | .ok es' => .ok (es ++ es')
 | b => b
theorem Tx (r : J8) : r.app [] = r := by cases r <;> rfl
theorem SC (es : List En) (e : En) (r : J8) : (r.cons e).app es = r.app (es ++ [e]) := by
 cases r with
 | ok es' => simp [J8.cons, J8.app]
 | bad no e => rfl
theorem PY {α : Type} {l : List α} {k : Nat} (d : α) (h : k < l.length) : l.drop k = l.getD k d :: l.drop (k + 1) := by
 rw [List.drop_eq_getElem_cons h, List.getD, List.getElem?_eq_getElem h]; rfl
theorem Mj {X Y w : World} {n : Nat} {row : Option Nat} (h : X.grownBy Y row) (hb : Below n w X) (hr : ∀ k, row = some k -> n <= k) (hn : n <= w.heap.size := by omega) : Below n w Y :=
 ⟨h.os.trans hb.os, h.tape.trans hb.tape, h.output.trans hb.output, Nat.le_trans hb.size h.size, fun k hk =>
  (h.block k (Nat.lt_of_lt_of_le hk (Nat.le_trans hn hb.size)) (fun e => by have := hr k e.symm; omega)).trans (hb.block k hk)⟩
def U9 (r : J8) (w : World) (e : Ending) (w' : World) : Prop := Below w.heap.size w w' /\ match r with
 | .ok es => ∃ u evs, e = .returned (.tuple #[u, .nilIface]) /\ evs.map Prod.fst = es /\ w'.ownsRow w.heap.size 107 3 u evs.length (evs.flatMap Dg) /\ TO w' (J6 w.heap.size u) evs
 | .bad no er => e = .returned (.tuple #[.slice none 0 0, Ci no er])
theorem UF (v : Value) (xs : List Sc) (w : World) (hx : Cy w v xs) (hl : xs.length <= 1000000) (hs : ∀ x ∈ xs, x.str.size <= 100000) (hT : Bz w) (hE : Cb w) :
  Calls Tryz.prog 20 #[v] w (U9 (Lq (xs.map B7)) w) := by
 obtain ⟨A, ca, rfl, hA⟩ := hx
 have HA := hid hA
 have HSz := hid hs
 obtain ⟨n, hn⟩ : ∃ n, xs.length = n := ⟨_, rfl⟩
 rw [hn] at HA hl |-
 have HN := hid hn
 obtain ⟨N, hNN⟩ : ∃ N, w.heap.size = N := ⟨_, rfl⟩
 have HNN := hid hNN
 clear hA hn hs
 go_enter Tryz.func20, Tryz.ntmps20
 go_wp2
 go_loopw [14] (fun i wr => ∃ k : Nat, k <= n /\ i = .int .i64 k /\ Hid (((xs.take k).map B7).all GB = true) /\ Below w.heap.size w wr) (fun i _ => n - (intOf i).toNat)
 case atStart => exact ⟨0, by omega, rfl, hid rfl, Bq _ _⟩
 case round =>
  obtain ⟨k, hk, rfl, HO, hb⟩ := hrel
  by_cases hlt : k < n
  ·have hki : (k : Int) < (n : Int) := by omega
   obtain ⟨a, o, rfl, ha, a0, a1, a2⟩ := HA.out k hlt
   replace a0 := Ab a0 hb
   replace a1 := Ab a1 hb
   replace a2 := Ab a2 hb
   obtain ⟨x, hx⟩ : ∃ x, xs.getD k CF = x := ⟨_, rfl⟩
   rw [hx] at a0 a1 a2
   have hkl : k < xs.length := by rw [HN.out]; exact hlt
   have HTK := hid (show ((xs.take (k + 1)).map B7).all GB = (((xs.take k).map B7).all GB && GB (B7 x)) by
    rw [List.take_succ_eq_append_getElem hkl, List.map_append, List.all_append, <- hx, List.getD, List.getElem?_eq_getElem hkl]; simp)
   have HALL := hid (fun (h : GB (B7 x) = false) => (show (xs.map B7).all GB = false by
    rw [List.all_eq_false]
    exact ⟨B7 x, List.mem_map.2 ⟨x, by rw [<- hx]; exact F3 _ _ _ hkl, rfl⟩, by rw [h]; simp⟩))
   clear hx hkl
   obtain ⟨x0, x1, x2⟩ := x
   dsimp only at a0 a1 a2
   by_cases h1 : x1 < 0
   ·have HB := hid (HALL.out (by unfold GB B7; simp; omega))
    go_wp2
    refine bodyPost_ret (v := .tuple #[.slice none 0 0, Ci 0 2]) (by simp [results, Tryz.results20, go_sem, Ci]) rfl ?_
    unfold Lq
    rw [HB.out]
    exact ⟨hb.alloc hb.size _, rfl⟩
   ·by_cases h2 : 8000 < x1
    ·have HB := hid (HALL.out (by unfold GB B7; simp; omega))
     go_wp2
     refine bodyPost_ret (v := .tuple #[.slice none 0 0, Ci 0 2]) (by simp [results, Tryz.results20, go_sem, Ci]) rfl ?_
     unfold Lq
     rw [HB.out]
     exact ⟨hb.alloc hb.size _, rfl⟩
    ·have HO2 := hid (show ((xs.take (k + 1)).map B7).all GB = true by
      rw [HTK.out, HO.out]; unfold GB B7; simp; omega)
     have hb2 := hb.alloc hb.size (.cells #[.int .i64 x0, .int .i64 x1, .string x2] 40)
     go_wp2
     go_roundw
     case rel => exact ⟨k + 1, by omega, rfl, HO2, hb2⟩
     case measure => simp only [intOf]; omega
  ·have HALL := hid (show Lq (xs.map B7) = C7 (xs.map B7) by
    unfold Lq
    have := HO.out
    rw [List.take_of_length_le (by rw [HN.out]; omega)] at this
    rw [if_pos this])
   have hki : ¬ (k : Int) < (n : Int) := by omega
   clear HO
   go_wp2
   go_loopw [6, 31] (fun o i wr => ∃ (k : Nat) (evs : List Si), k <= n /\ evs.length = k /\ i = .int .i64 k /\ wr.ownsRow N 107 3 o k (evs.flatMap Dg) /\ TO wr (J6 N o) evs /\ Below w.heap.size w wr /\ Hid (C7 (xs.map B7) = (C7 ((xs.drop k).map B7)).app (evs.map Prod.fst))) (fun _ i _ => n - (intOf i).toNat)
   case atStart => exact ⟨0, [], by omega, rfl, rfl, World.ownsRow_nil _ _ _ _, (fun y hy => by cases hy), hb, hid (Tx _).symm⟩
   case round =>
    obtain ⟨k2, evs, hk2, hel, rfl, hown, hev, hb2, HP⟩ := hrel
    obtain ⟨A3, c3, rfl, hob⟩ := AE hown
    by_cases hlt2 : k2 < n
    ·have hki2 : (k2 : Int) < (n : Int) := by omega
     obtain ⟨a, o, rfl, ha, a0, a1, a2⟩ := HA.out k2 hlt2
     replace a0 := Ab a0 hb2
     replace a1 := Ab a1 hb2
     replace a2 := Ab a2 hb2
     have hkl : k2 < xs.length := by rw [HN.out]; exact hlt2
     have hdr := PY CF hkl
     have hsz := HSz.out (xs.getD k2 CF) (F3 _ _ _ hkl)
     obtain ⟨x, hx⟩ : ∃ x, xs.getD k2 CF = x := ⟨_, rfl⟩
     rw [hx] at a0 a1 a2 hdr hsz
     obtain ⟨x0, x1, x2⟩ := x
     dsimp only at a0 a1 a2 hsz
     have HST := hid (show C7 (xs.map B7) = (if (B9 x2.data.toList).2 ≠ 0 then .bad x0 (B9 x2.data.toList).2 else (C7 ((xs.drop (k2 + 1)).map B7)).cons ⟨x0, x1, (B9 x2.data.toList).1⟩ : J8).app (evs.map Prod.fst) by
      rw [HP.out, hdr, List.map_cons, C7]; rfl)
     have hRd := fun wx (hb : Below w.heap.size w wx) => Oc x2 wx hsz (hT.below hb) (hE.below hb)
     obtain ⟨⟨tks, pl, er⟩, htr⟩ : ∃ r, C0 x2.data.toList = r := ⟨_, rfl⟩
     have HON := hid (show B9 x2.data.toList = (tks.map Kq, if er = 0 /\ tks = [] then 93 else (er : Int)) by unfold B9; rw [htr])
     rw [htr] at hRd
     have hb3 := hb2.alloc hb2.size (.cells #[.int .i64 x0, .int .i64 x1, .string x2] 40)
     have hX := Wn wr (.cells #[.int .i64 x0, .int .i64 x1, .string x2] 40)
     obtain ⟨p0, p1, p2, _⟩ := Az hX
     have HB3 := hid hb3
     have HX := hid hX
     have HEV := hid (Ai hown (Ai hev (Ai hob hel)))
     have hrz : N <= wr.heap.size := by have := hb2.size; omega
     clear hown hev hob hb3 hX hdr hx hkl hsz htr HP
     go_wp2_with fail
     refine (hRd _ HB3.out).mono ?_
     rintro e w4 ⟨v3, rfl, hv3, hc3, hn3, hb4⟩
     obtain ⟨A4, c4, rfl, _⟩ := id hv3
     have hHb := HB3.out.trans (hb4.mono HB3.out.size)
     obtain ⟨q0, q1, q2, _⟩ := Az (Aa HX.out hb4)
     have HV3 := hid (Ai hv3 (Ai (hc3 _ _ _ rfl) (Ai hn3 (Ai hb4 hHb))))
     obtain ⟨m, hm⟩ : ∃ m, tks.length = m := ⟨_, rfl⟩
     rw [hm] at HV3 |-
     have HM := hid hm
     clear hRd hv3 hc3 hn3 hb4 p0 p1 p2 a0 a1 a2 hm
     dsimp only
     by_cases he : er = 0
     ·subst he
      by_cases hm0 : m = 0
      ·have hmi : ((m : Int) == 0) = true := by rw [hm0]; rfl
       have HF := hid (show C7 (xs.map B7) = .bad x0 93 by
        have h0 : tks = [] := List.eq_nil_of_length_eq_zero (by rw [HM.out, hm0])
        rw [HST.out, HON.out, h0]; rfl)
       clear hm0
       go_wp2
       go_quiet (fail)
       go_wp2
       refine bodyPost_ret (v := .tuple #[.slice none 0 0, Ci x0 93]) (by simp [results, Tryz.results20, go_sem, Ci]) rfl ?_
       rw [HALL.out, HF.out]
       refine ⟨?_, rfl⟩
       first | exact HV3.out.2.2.2.2 | exact Ae HV3.out.2.2.2.2
      ·have hmi : ((m : Int) == 0) = false := by rw [beq_eq_false_iff_ne]; omega
       have HL1 := hid (show C7 (xs.map B7) = (C7 ((xs.drop (k2 + 1)).map B7)).app ((evs ++ [((⟨x0, x1, tks.map Kq⟩, .slice A4 m c4) : Si)]).map Prod.fst) by
        have h0 : ¬ (tks = []) := fun e => hm0 (by rw [<- HM.out, e]; rfl)
        rw [HST.out, HON.out]
        simp only [h0, and_false, if_false]
        rw [if_neg (by simp), SC, List.map_append]; rfl)
       have hown4 := Cf (Cf HEV.out.1 ((Bq _ wr).alloc Nr (.cells #[.int .i64 x0, .int .i64 x1, .string x2] 40))) HV3.out.2.2.2.1
       have hlt4 : wr.heap.size < w4.heap.size := (Array.getElem?_eq_some_iff.1 (Aa HX.out HV3.out.2.2.2.1)).1
       have hEB := (Bq w4.heap.size w4).alloc Nr (.cells #[.int .i64 x0, .int .i64 x1, .slice A4 m c4] 107)
       have hNB := Wn w4 (.cells #[.int .i64 x0, .int .i64 x1, .slice A4 m c4] 107)
       have hown5 := Cf hown4 hEB
       obtain ⟨i0, hi, hz0, hz1, hz2⟩ := info_parts Ua
       have hu : Tryz.prog.underlying 49 = some (.slice 107) := by kernel_rfl
       have HU := hid hu
       clear hu hm0 hown4
       have HN5 := hid (Ai hown5 (Ai hNB hEB))
       have hk10 : k2 <= 1000000 := by omega
       clear hown5 hNB hEB
       go_wp2_with (at_builtin; go_must (refine wpList_append_lies _ rfl _ _ 49 rfl N 107 i0 (.agg #[.int .i64 0, .int .i64 0, .slice none 0 0]) 3 40 HU.out hi hz0 hz1 hz2 rfl (by decide) (.slice A3 k2 c3) k2 (evs.flatMap Dg) rfl HN5.out.1 ⟨w4.heap.size, 0, none⟩ 1 1 [.int .i64 x0, .int .i64 x1, .slice A4 m c4] rfl rfl (World.news_of_block HN5.out.2.1) (by intro u hu; simp at hu; rcases hu with rfl | rfl | rfl <;> rfl) (by decide) (by unfold maxLen; omega) (by omega) (by simp; omega) _ rfl ?_))
       intro g gcap w6 hown6 hgrow6 hat6 hlt6
       have hB6 : Below w.heap.size w w6 := by
        have h1 := HV3.out.2.2.2.2.trans (HN5.out.2.2.mono HV3.out.2.2.2.2.size)
        exact Mj hgrow6 h1 (fun q e => by have := (HEV.out.2.2.1 q e).1; omega)
       have hev6 : TO w6 (J6 N (.slice (some ⟨g, 0, none⟩) (k2 + 1) gcap)) (evs ++ [((⟨x0, x1, tks.map Kq⟩, .slice A4 m c4) : Si)]) := by
        have hlift : ∀ (l : List AV) (v : Value), JK (w4.alloc (.cells #[.int .i64 x0, .int .i64 x1, .slice A4 m c4] 107)) (fun q => N <= q /\ q < w4.heap.size /\ (Value.slice A3 k2 c3).ownBlock ≠ some q) l v -> JK w6 (J6 N (.slice (some ⟨g, 0, none⟩) (k2 + 1) gcap)) l v := fun l v h => by
         refine (h.wide ⟨hgrow6.size, fun q o x hb hc => (hgrow6.cell_far ⟨q, o, none⟩ (AS hc) (fun e => hb.2.2 e.symm)).trans hc⟩).less (fun q _ hq => ⟨hq.1, fun e => ?_⟩)
         simp [Value.ownBlock] at e
         subst e
         rcases hat6 with e | e
         ·exact hq.2.2 e
         ·have := hq.2.1; omega
        intro y hy
        rcases List.mem_append.1 hy with hy | hy
        ·have h0 := HEV.out.2.1 y hy
         refine hlift _ _ (((h0.less (S' := fun q => N <= q /\ q < wr.heap.size /\ (Value.slice A3 k2 c3).ownBlock ≠ some q) (fun q hq hO => ⟨hO.1, hq, hO.2⟩)).wide ⟨by simp; omega, fun q o x hq hc => ?_⟩).less (fun q _ hq => ⟨hq.1, by omega, hq.2.2⟩))
         exact Ab (Ab (Ab hc ((Bq _ wr).alloc Nr _)) HV3.out.2.2.2.1) HN5.out.2.2
        ·rw [List.mem_singleton.1 hy]
         refine hlift _ _ ?_
         have htk := (show DX w4 (.slice A4 m c4) tks from HV3.out.1).toIn
         refine JK.less (S := fun q => wr.heap.size + 1 <= q /\ q < w4.heap.size) ⟨A4, c4, by rw [List.length_map, HM.out], by rw [List.length_map, HM.out]; exact HV3.out.2.1, htk.below HN5.out.2.2, fun q o l c e hl => ?_⟩ (fun q _ hq => ⟨by omega, hq.2, fun e => by have := (HEV.out.2.2.1 q e).2.1; omega⟩)
         obtain ⟨A9, c9, e9, h9⟩ := htk
         have h10 := HV3.out.2.2.1 q o l c e hl
         rw [World.size_alloc] at h10
         refine ⟨h10, ?_⟩
         have hl2 : 0 < (tks.map VX).length := by
          have : m = l := by injection e
          rw [List.length_map, HM.out]; omega
         obtain ⟨bb, oo, ha, hlt, _⟩ := h9 0 hl2
         have : bb = q := by
          rw [e9] at e; injection e with e _ _
          rw [ha] at e; injection e with e; injection e
         omega
       have hown7 : w6.ownsRow N 107 3 (.slice (some ⟨g, 0, none⟩) (k2 + 1) gcap) (k2 + 1) ((evs ++ [((⟨x0, x1, tks.map Kq⟩, .slice A4 m c4) : Si)]).flatMap Dg) := by
        rw [List.flatMap_append]; exact hown6
       have HR6 := hid (Ai hown7 (Ai hev6 hB6))
       have hel2 : (evs ++ [((⟨x0, x1, tks.map Kq⟩, .slice A4 m c4) : Si)]).length = k2 + 1 := by rw [List.length_append, HEV.out.2.2.2]; rfl
       clear hown6 hgrow6 hat6 hlt6 hown7 hev6 hB6 q0 q1 q2
       go_wp2
       go_roundw
       case rel => exact ⟨k2 + 1, _, by omega, hel2, rfl, HR6.out.1, HR6.out.2.1, HR6.out.2.2, HL1⟩
       case measure => simp only [intOf]; omega
     ·have he1 : ((er : Int) == 0) = false := by rw [beq_eq_false_iff_ne]; omega
      have he2 : ((er : Int) != 0) = true := by rw [bne, he1]; rfl
      have HF := hid (show C7 (xs.map B7) = .bad x0 er by
       rw [HST.out, HON.out]
       simp only [he, false_and, if_false]
       rw [if_pos (by omega)]; rfl)
      clear he
      go_wp2
      go_quiet (fail)
      go_wp2
      refine bodyPost_ret (v := .tuple #[.slice none 0 0, Ci x0 er]) (by simp [results, Tryz.results20, go_sem, Ci]) rfl ?_
      rw [HALL.out, HF.out]
      refine ⟨?_, rfl⟩
      first | exact HV3.out.2.2.2.2 | exact Ae HV3.out.2.2.2.2
    ·have hki2 : ¬ (k2 : Int) < (n : Int) := by omega
     have HF := hid (show C7 (xs.map B7) = .ok (evs.map Prod.fst) by
      rw [HP.out, List.drop_eq_nil_of_le (by rw [HN.out]; omega), List.map_nil, C7]; simp [J8.app])
     have HEV := hid (Ai hown (Ai hev (Ai hel hb2)))
     clear hown hev hob HP
     go_wp2
     refine bodyPost_ret (v := .tuple #[.slice A3 k2 c3, .nilIface]) (by simp [results, Tryz.results20, go_sem]) rfl ?_
     rw [HALL.out, HF.out]
     refine ⟨hb2, _, evs, rfl, rfl, ?_, ?_⟩
     ·rw [hel, HNN.out]; exact HEV.out.1
     ·rw [HNN.out]; exact HEV.out.2.1
end
end Go.Proofs.YtaogfdffgdglkaaGreatDoor
