/- What is proved: a part of the walk of the program and of its plain laws; no condition beside those that each theorem names. -/
import Derived.Test.YtaogfdffgdglkaaGreatDoorYa
import Derived.Test.YtaogfdffgdglkaaGreatDoorYn
import Derived.Test.YtaogfdffgdglkaaGreatDoorYj
namespace Go.Proofs.YtaogfdffgdglkaaGreatDoor
open Go Go.RowKit Go.Lib
set_option linter.unusedSimpArgs false
set_option linter.unusedVariables false
section
set_option maxRecDepth 100000
set_option maxHeartbeats 4000000
theorem T0 (s : ByteArray) : (⟨s.data.toList.toArray⟩ : ByteArray) = s := by cases s; simp
theorem size_setCell (w : World) (a : Addr) (v : Value) : (w.setCell a v).heap.size = w.heap.size := by simp [World.setCell]
theorem O5 (R : Nat) (s : ByteArray) (p d : Nat) (w : World) (hs : s.size <= 1000000) (hp : p < s.size) (hR : RA w R s p d) (hTab : Fi R w) (tt : List UInt8) (q en : Nat) (hq : B6 s p = (tt, q, (en : Int))) (hen : en ≠ 0) :
  Calls Tryz.prog 156 #[.pointer (some ⟨R, 0, none⟩)] w (AG R s p (.bad en) w) := by
 have hQ := fun wx hx => KG s p wx hs hx
 rw [hq] at hQ
 clear hq
 unfold EU at hQ
 have hne : ((en : Int) == 0) = false := by rw [beq_eq_false_iff_ne]; omega
 clear hen
 have hlt := hR.lt
 have hS := Sx.new hR
 go_enter Tryz.func156, Tryz.ntmps156
 go_wp2
 replace hS := hS.below (Bq _ _).drew
 refine wp_region_noPanic ?_
 refine wR 18 (S := (fun w' => w'.cell? ⟨R, 0, none⟩ = some (.string s) /\ w'.cell? ⟨R, 1, none⟩ = some (.int .i64 p))) rfl ?_ (fun hHeld => ?_)
 ·(try dsimp only); exact ⟨hS.ra.cells.1, hS.ra.cells.2.1⟩
 simp only [gR]
 iterate 10 (refine wN hHeld ?_; try simp only [gS])
 refine wB 10 rfl (fun K hK => ?_)
 go_simp
 refine (hQ _ (hTab.mod hS.md).tabs).mono ?_
 rintro e wz ⟨rfl, hb⟩
 replace hS := hS.below hb
 try go_wp2_with fail
 refine hK.out _ _ ?_ (fun hHeld2 => ?_)
 ·(try dsimp only); exact ⟨hS.ra.cells.1, hS.ra.cells.2.1⟩
 clear hK K hHeld
 have hHeld := hHeld2; clear hHeld2
 try simp only [gS]
 iterate 7 (refine wN hHeld ?_; try simp only [gS])
 refine wpAnyH_done (by kernel_rfl) ?_ _
 refine NoPanic.normal ?_
 obtain ⟨n0, n1, n2, g0, g1, g2⟩ := hS.cells
 clear hQ
 go_wp2
 obtain ⟨e0, e1, e2, e3, e4⟩ := hS.fin hlt (.int .i64 0) (.string ⟨#[]⟩) (.int .i64 0)
 refine bodyPost_ret (v := .tuple #[BP ⟨0, [], 0⟩, .iface 198 (.agg #[.int .i64 en])]) (by simp [results, Tryz.results156, go_sem, BP, e0, e1, e2]) rfl (AG.bad rfl rfl e4)
theorem P4 (R : Nat) (s : ByteArray) (p d : Nat) (w : World) (hs : s.size <= 1000000) (hp : p < s.size) (hR : RA w R s p d) (hTab : Fi R w) (tt : List UInt8) (q : Nat) (hq : B6 s p = (tt, q, 0)) (hqs : q <= s.size) (r : TR) (HR : Hid ((if AF s.data.toList q d || C3 s.data.toList q [58] then .ok 2 tt q d else .bad 90) = r)) :
  Calls Tryz.prog 156 #[.pointer (some ⟨R, 0, none⟩)] w (AG R s p r w) := by
 have hQ := fun wx hx => KG s p wx hs hx
 rw [hq] at hQ
 clear hq
 unfold EU at hQ
 have hC := fun wx hx => Bv R s q d 0 q wx hs rfl (by omega) hx
 have hI := fun wx hx => DJ R s q d 0 q [58] 1 1 wx hs (by omega) (by omega) rfl (by omega) hx
 have hlt := hR.lt
 have hS := Sx.new hR
 obtain ⟨cb, hcb⟩ : ∃ cb, AF s.data.toList q d = cb := ⟨_, rfl⟩
 obtain ⟨ib, hib⟩ : ∃ ib, C3 s.data.toList q [58] = ib := ⟨_, rfl⟩
 have HCI := hid (Ai hcb hib)
 rw [hcb] at hC
 rw [hib] at hI
 clear hcb hib
 go_enter Tryz.func156, Tryz.ntmps156
 go_wp2
 replace hS := hS.below (Bq _ _).drew
 refine wp_region_noPanic ?_
 refine wR 18 (S := (fun w' => w'.cell? ⟨R, 0, none⟩ = some (.string s) /\ w'.cell? ⟨R, 1, none⟩ = some (.int .i64 p))) rfl ?_ (fun hHeld => ?_)
 ·(try dsimp only); exact ⟨hS.ra.cells.1, hS.ra.cells.2.1⟩
 simp only [gR]
 iterate 10 (refine wN hHeld ?_; try simp only [gS])
 refine wB 10 rfl (fun K hK => ?_)
 go_simp
 refine (hQ _ (hTab.mod hS.md).tabs).mono ?_
 rintro e wz ⟨rfl, hb⟩
 replace hS := hS.below hb
 try go_wp2_with fail
 refine hK.out _ _ ?_ (fun hHeld2 => ?_)
 ·(try dsimp only); exact ⟨hS.ra.cells.1, hS.ra.cells.2.1⟩
 clear hK K hHeld
 have hHeld := hHeld2; clear hHeld2
 try simp only [gS]
 iterate 7 (refine wN hHeld ?_; try simp only [gS])
 refine wpAnyH_done (by kernel_rfl) ?_ _
 refine NoPanic.normal ?_
 clear hQ hb
 have hTB : ((wz.setCell ⟨R, 1, none⟩ (.int .i64 q)).alloc (.cells #[.int .i64 2, .string ⟨tt.toArray⟩, .int .i64 p] 116)).heap[wz.heap.size]? = some (.cells #[.int .i64 2, .string ⟨tt.toArray⟩, .int .i64 p] 116) := by
  have := Wn (wz.setCell ⟨R, 1, none⟩ (.int .i64 q)) (.cells #[.int .i64 2, .string ⟨tt.toArray⟩, .int .i64 p] 116)
  rwa [size_setCell] at this
 obtain ⟨r0, r1, r2, f0, f1, f2⟩ := hS.ra.cells
 have hltz : R < wz.heap.size := hS.ra.lt
 replace hS := (hS.set1 hlt q).alloc (.cells #[.int .i64 2, .string ⟨tt.toArray⟩, .int .i64 p] 116)
 go_wp2_with fail
 refine (hC _ hS.ra).mono ?_
 rintro e w2 ⟨rfl, hb2⟩
 replace hS := hS.below hb2
 replace hTB := Aa hTB hb2
 clear hC hb2 r0 r1 r2 f0 f1 f2 hltz
 cases cb with
 | true =>
  have HQ := hid (show r = .ok 2 tt q d by rw [<- HR.out, HCI.out.1, Bool.true_or, if_pos rfl])
  clear hI
  obtain ⟨n0, n1, n2, g0, g1, g2⟩ := hS.cells
  obtain ⟨t0, t1, t2, _⟩ := Az hTB
  go_wp2
  obtain ⟨e0, e1, e2, e3, e4⟩ := hS.fin hlt (.int .i64 2) (.string ⟨tt.toArray⟩) (.int .i64 p)
  refine bodyPost_ret (v := .tuple #[BP ⟨2, tt, p⟩, .nilIface]) (by simp [results, Tryz.results156, go_sem, BP, e0, e1, e2]) rfl (AG.ok HQ.out rfl e3 e4)
 | false =>
  go_wp2_with fail
  refine (hI _ hS.ra).mono ?_
  rintro e w3 ⟨rfl, hb3⟩
  replace hS := hS.below hb3
  replace hTB := Aa hTB hb3
  clear hI hb3
  cases ib with
  | true =>
   have HQ := hid (show r = .ok 2 tt q d by rw [<- HR.out, HCI.out.1, HCI.out.2, Bool.false_or, if_pos rfl])
   obtain ⟨n0, n1, n2, g0, g1, g2⟩ := hS.cells
   obtain ⟨t0, t1, t2, _⟩ := Az hTB
   go_wp2
   obtain ⟨e0, e1, e2, e3, e4⟩ := hS.fin hlt (.int .i64 2) (.string ⟨tt.toArray⟩) (.int .i64 p)
   refine bodyPost_ret (v := .tuple #[BP ⟨2, tt, p⟩, .nilIface]) (by simp [results, Tryz.results156, go_sem, BP, e0, e1, e2]) rfl (AG.ok HQ.out rfl e3 e4)
  | false =>
   have HQ := hid (show r = .bad 90 by rw [<- HR.out, HCI.out.1, HCI.out.2, Bool.false_or, if_neg (by decide)])
   obtain ⟨n0, n1, n2, g0, g1, g2⟩ := hS.cells
   obtain ⟨t0, t1, t2, _⟩ := Az hTB
   go_wp2
   obtain ⟨e0, e1, e2, e3, e4⟩ := hS.fin hlt (.int .i64 0) (.string ⟨#[]⟩) (.int .i64 0)
   refine bodyPost_ret (v := .tuple #[BP ⟨0, [], 0⟩, .iface 198 (.agg #[.int .i64 90])]) (by simp [results, Tryz.results156, go_sem, BP, e0, e1, e2]) rfl (AG.bad HQ.out rfl e4)
theorem NO (R : Nat) (s : ByteArray) (p d : Nat) (w : World) (hs : s.size <= 1000000) (hp : p < s.size) (hR : RA w R s p d) (hTab : Fi R w) (hv : validD s.data.toList = true) (hc : s.data.toList.getD p 0 = 34 \/ s.data.toList.getD p 0 = 39) :
  Calls Tryz.prog 156 #[.pointer (some ⟨R, 0, none⟩)] w (AG R s p (DY s.data.toList p d) w) := by
 obtain ⟨q0, hq0, hq8⟩ := FC (l := s.data.toList) (p := p) (by rw [<- Lib.size_eq]; exact hp) hc
 have he := JU hq0 hv
 unfold DY
 have hto := LZ hq0 hq8 hv
 rw [T0] at he hto |-
 obtain ⟨⟨tt, q, er⟩, hq⟩ : ∃ x, B6 s p = x := ⟨_, rfl⟩
 rw [hq] at he hto |-
 dsimp only at he hto |-
 by_cases h0 : er = 0
 ·subst h0
  rw [if_pos rfl]
  exact P4 R s p d w hs hp hR hTab tt q hq (by have := (hto rfl).2; rwa [<- Lib.size_eq] at this) _ (hid rfl)
 ·rw [if_neg h0]
  obtain ⟨en, rfl⟩ : ∃ en : Nat, er = en := ⟨er.toNat, by omega⟩
  rw [show ((en : Nat) : Int).toNat = en by omega]
  exact O5 R s p d w hs hp hR hTab tt q en hq (by omega)
def DZ (r : Nat) : Bool := (decide (65 <= r) && decide (r <= 90)) || ((decide (97 <= r) && decide (r <= 122)) || ((decide (48 <= r) && decide (r <= 57)) || (r == 95 || r == 45)))
theorem Jf (c : UInt8) : DZ c.toNat = Cq c := rfl
theorem IH (r : Nat) (h : 128 <= r) : DZ r = false := by
 unfold DZ
 rw [Bool.eq_false_iff]
 simp
 omega
theorem NM (c : UInt8) (h : 128 <= c.toNat) : Cq c = false := (Jf c).symm.trans (IH _ h)
theorem Ik (r : Nat) (w : World) :
  Calls Tryz.prog 175 #[.int .i32 (r : Int)] w fun e w' => e = .returned (.bool (DZ r)) /\ w' = w := by
 go_enter Tryz.func175, Tryz.ntmps175
 go_wp2
 all_goals (go_ret; refine ⟨?_, rfl⟩)
 all_goals (refine congrArg (fun b => Ending.returned (Value.bool b)) (?_ : _ = DZ r); unfold DZ; rw [Bool.eq_iff_iff]; simp [*]; try omega)
theorem Gr (w : World) : PredGrows Tryz.prog 175 #[] DZ w := fun W x _ _ => by
 refine (Ik x W).mono ?_
 rintro e w' ⟨rfl, hw⟩
 subst w'
 exact ⟨rfl, Bq _ _⟩
theorem Pj (s : ByteArray) (pos : Nat) (h : pos < s.size) : (DZ (Utf8.decode s pos).1 = Cq (s[pos]'h)) /\ (Cq (s[pos]'h) = true -> (Utf8.decode s pos).2 = 1) := by
 have hd := FE s pos h
 rw [<- Lib.decodeL_drop, hd]
 rcases Nat.lt_or_ge (s[pos]'h).toNat 128 with h1 | h1
 ·rw [decodeL_ascii _ _ h1]
  exact ⟨Jf _, fun _ => rfl⟩
 ·rw [NM _ h1]
  exact ⟨IH _ (Hj _ _ h1), fun h => by cases h⟩
theorem I1 (s : ByteArray) (w : World) (hs : s.size <= 1000000) :
  Calls Tryz.prog 176 #[.string s] w fun e w' => e = .returned (.bool (Fo s.data.toList)) /\ Below w.heap.size w w' := by
 go_enter Tryz.func176, Tryz.ntmps176
 go_wp2
 go_loopw [2] (fun r wr => r = .bool false /\ ∃ pos, pos <= s.size /\ wr.heap[w.heap.size]? = some (.stringIter s pos) /\ Below w.heap.size w wr /\ Hid ((s.data.toList.take pos).all Cq = true)) (fun _ wr => s.size - wr.iterPos w.heap.size)
 case atStart => exact ⟨rfl, 0, by omega, World.iter_heap _ _ _, (Bq _ w).alloc Nr _, hid rfl⟩
 case round =>
  obtain ⟨rfl, pos, hp, hit, hb, HV⟩ := hrel
  by_cases hlt : pos < s.size
  ·have hnx := fun ty => run_next_any_at (P := Tryz.prog) wr w.heap.size s pos ty hit hlt
   have hbi : Below w.heap.size w (wr.iterAt w.heap.size s (pos + (Utf8.decode s pos).2)) := below_iterAt hb Nr _ _
   have hit1 := iterAt_heap _ _ _ pos (pos + (Utf8.decode s pos).2) hit
   have hw := Ce s pos hlt
   obtain ⟨c, hc⟩ : ∃ c, s[pos]'hlt = c := ⟨_, rfl⟩
   obtain ⟨q1, q2⟩ := Pj s pos hlt
   rw [hc] at q1 q2
   have hS := Ik (Utf8.decode s pos).1
   rw [q1] at hS
   have HS := hid (Qj (p := Cq) (l := s.data.toList) (k := pos) (by rw [<- Lib.size_eq]; exact hlt))
   have HX := hid (fun h => OB (p := Cq) (l := s.data.toList) (k := pos) (by rw [<- Lib.size_eq]; exact hlt) h)
   have HC := hid ((Cw s pos hlt).trans hc)
   have hm1 := CK hit
   have hm2 := CK hit1
   have HM := hid (Ai hm1 hm2)
   have HI1 := hid hit1
   clear hm1 hm2 q1 hc hit1
   cases hcb : Cq c with
   | true =>
    rw [hcb] at hS
    have hk := q2 hcb
    have HV' := hid (show (s.data.toList.take (pos + 1)).all Cq = true by rw [HS.out, HV.out, HC.out, hcb]; rfl)
    have HK := hid hk
    clear hcb q2 hk
    go_wp2_with fail
    refine (hS _).mono ?_
    rintro e w1 ⟨rfl, hw1⟩
    subst w1
    clear hS hit
    go_wp2
    go_roundw
    case rel => exact ⟨rfl, pos + 1, by omega, by rw [<- HK.out]; exact HI1.out, hbi, HV'⟩
    case measure => rw [HM.out.1, HM.out.2]; omega
   | false =>
    rw [hcb] at hS
    have HF := hid (show Fo s.data.toList = false by unfold Fo; rw [HX.out (by rw [HC.out, hcb])]; rfl)
    clear hcb q2
    go_wp2_with fail
    refine (hS _).mono ?_
    rintro e w1 ⟨rfl, hw1⟩
    subst w1
    clear hS hit
    go_wp2
    go_ret
    exact ⟨by rw [HF.out]; rfl, hbi⟩
  ·have hnx := fun ty => run_next_end_at (P := Tryz.prog) wr w.heap.size s pos ty hit hlt
   have hall := HV.out
   rw [List.take_of_length_le (by rw [<- Lib.size_eq]; omega)] at hall
   clear hit HV
   by_cases h0 : 0 < s.size
   ·have he := AX h0
    have HF := hid (show Fo s.data.toList = decide ((s.size : Int) <= 20) by
     unfold Fo
     have hz : s.data.toList.isEmpty = false := by rw [<- Lib.toList_data]; exact he
     rw [hall, hz, <- Lib.size_eq, Bool.eq_iff_iff]; simp; omega)
    clear hall
    go_wp2
    go_ret
    exact ⟨by rw [HF.out]; rfl, by first | exact hb | exact (below_iterAt hb Nr _ _)⟩
   ·have he := Bt h0
    have HF := hid (show Fo s.data.toList = false by
     have h00 : s.data.toList = [] := List.eq_nil_of_length_eq_zero (by rw [<- Lib.size_eq]; omega)
     rw [h00]; rfl)
    clear hall
    go_wp2
    go_ret
    exact ⟨by rw [HF.out]; rfl, by first | exact hb | exact (below_iterAt hb Nr _ _)⟩
theorem MQ (s : ByteArray) : ∀ (f pos : Nat), s.size - pos <= f -> pos <= s.size -> idxFuncFrom DZ false s f pos = if (s.data.toList.drop pos).all Cq then -1 else ((pos + ((s.data.toList.drop pos).takeWhile Cq).length : Nat) : Int)
 | 0, pos, hf, hp => by
  rw [List.drop_eq_nil_of_le (by rw [<- Lib.size_eq]; omega)]
  rfl
 | f + 1, pos, hf, hp => by
  unfold idxFuncFrom
  by_cases hlt : pos < s.size
  ·rw [if_pos hlt, FE s pos hlt]
   obtain ⟨q1, q2⟩ := Pj s pos hlt
   rw [q1]
   cases hc : Cq (s[pos]'hlt) with
   | true =>
    rw [if_neg (by decide), q2 hc, MQ s f (pos + 1) (by omega) (by omega)]
    simp only [List.all_cons, hc, Bool.true_and, List.takeWhile_cons, if_true, List.length_cons]
    split
    ·rfl
    ·omega
   | false =>
    rw [if_pos rfl]
    simp [hc]
  ·rw [if_neg hlt, List.drop_eq_nil_of_le (by rw [<- Lib.size_eq]; omega)]
   rfl
theorem FL : ∀ (l : List UInt8), l.all Cq = true -> l.takeWhile Cq = l
 | [], _ => rfl
 | c :: t, h => by
  rw [List.all_cons, Bool.and_eq_true] at h
  rw [List.takeWhile_cons, if_pos h.1, FL t h.2]
theorem KF (s : ByteArray) : (trimLeftF DZ s).size = s.size - (s.data.toList.takeWhile Cq).length := by
 have h := MQ s s.size 0 (by omega) (by omega)
 rw [List.drop_zero] at h
 unfold trimLeftF idxFunc
 rw [h]
 by_cases ha : s.data.toList.all Cq = true
 ·rw [if_pos ha, if_pos rfl]
  rw [FL _ ha, <- Lib.size_eq]
  show 0 = _
  omega
 ·rw [if_neg ha, if_neg (by omega)]
  simp [ByteArray.size_extract]
end
end Go.Proofs.YtaogfdffgdglkaaGreatDoor
