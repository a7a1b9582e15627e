/- What is proved: a part of the walk of the program and of its plain laws; no condition beside those that each theorem names. -/
import Derived.Test.YtaogfdffgdglkaaGreatDoorYb
import Derived.Test.YtaogfdffgdglkaaGreatDoorYMaps
import Derived.Test.YtaogfdffgdglkaaGreatDoorYa
import Derived.Laws.EntriesVeiled
import Derived.Lib.MapLaws
import Derived.Handy
import Derived.Deep.RegionHeld3
namespace Go.Proofs.YtaogfdffgdglkaaGreatDoor
open Go Go.RowKit Go.Lib
set_option linter.unusedSimpArgs false
set_option linter.unusedVariables false
section
set_option maxHeartbeats 1000000
set_option maxRecDepth 100000
attribute [local go_sem] Oper.semAt_some CA B0
theorem Qv (s : ByteArray) (w : World) :
  Calls Tryz.prog 193 #[.string s] w fun e w' => e = .returned (.func (.func 207) #[] #[.pointer (some ⟨w.heap.size, 0, none⟩)]) /\ w' = w.alloc (.cells #[.string s] 9) := by
 go_enter Tryz.func193, Tryz.ntmps193
 go_wp2
 go_ret
 exact ⟨rfl, rfl⟩
theorem Oe (s : ByteArray) (flow : Bool) (w : World) (hs : s.size <= 1000000) :
  Calls Tryz.prog 180 #[.string s, .bool flow] w fun e w' => e = .returned (.bool (I5 s.data.toList flow)) /\ Below w.heap.size w w' := by
 refine (callsIn_wide (n := 0)).1 ?_
 refine callsIn_of_wp_marks Tryz.func180 rfl trivial ?_ rfl
 refine wpIn_wide.2 ?_
 simp only [Tryz.ntmps180, List.size_toArray, List.length_cons, List.length_nil, Nat.reduceAdd, Nat.reduceSub, Array.replicate_succ, Array.replicate_zero, List.push_toArray, List.append_toArray, List.nil_append, List.cons_append]
 obtain ⟨N, hN⟩ : ∃ N, w.heap.size = N := ⟨_, rfl⟩
 go_wp2_with fail
 refine (Qv s _).mono ?_
 rintro e w0 ⟨rfl, hw0⟩
 have hz : w0.heap.size = N + 1 + 1 + 1 + 1 := by rw [hw0]; simp [hN]
 have hb0 : Below N w w0 := by rw [hw0]; exact ((((Bq N w).alloc (by omega) _).alloc (by simp; omega) _).alloc (by simp; omega) _).alloc (by simp; omega) _
 have b0 : Boxed w0 N 4 (.bool flow) := by rw [hw0, <- hN]; exact (((Boxed.new w _ _).alloc _).alloc _).alloc _
 have b1 : Boxed w0 (N + 1) 4 (.bool false) := by have := Boxed.new (w.alloc (.cells #[.bool flow] 4)) 4 (.bool false); rw [World.size_alloc, hN] at this; rw [hw0]; exact (this.alloc _).alloc _
 have b2 : Boxed w0 (N + 1 + 1) 101 (.func (.func 192) #[] #[.pointer (some ⟨N, 0, none⟩)]) := by have := Boxed.new ((w.alloc (.cells #[.bool flow] 4)).alloc (.cells #[.bool false] 4)) 101 (.func (.func 192) #[] #[.pointer (some ⟨N, 0, none⟩)]); rw [World.size_alloc, World.size_alloc, hN] at this; rw [hw0]; exact this.alloc _
 have b3 : Boxed w0 (N + 1 + 1 + 1) 9 (.string s) := by rw [hw0]; have := Boxed.new (((w.alloc (.cells #[.bool flow] 4)).alloc (.cells #[.bool false] 4)).alloc (.cells #[.func (.func 192) #[] #[.pointer (some ⟨N, 0, none⟩)]] 101)) 9 (.string s); rw [World.size_alloc, World.size_alloc, World.size_alloc, hN] at this; exact this
 rw [World.size_alloc, World.size_alloc, World.size_alloc, hN]
 clear hw0
 go_wp2
 refine (wpIn_wide (n := 0)).1 ?_
 refine Dm (gf := 207) (lb := #[.pointer (some ⟨N + 1 + 1 + 1, 0, none⟩)]) rfl (enters_of Tryz.func207 (by kernel_rfl) rfl) (NR s (N + 1 + 1 + 1) N hs)
  (fun Y hY => ⟨(Ac b3 hY).cell, (Ac b3 hY).frozen⟩) (fun k hk => by subst hk; omega) (by omega) (fun _ => rfl)
  (fun pre W => Hid (Fs flow pre = true) /\ Boxed W N 4 (.bool flow) /\ Boxed W (N + 1) 4 (.bool false) /\ Boxed W (N + 1 + 1) 101 (.func (.func 192) #[] #[.pointer (some ⟨N, 0, none⟩)]) /\ Below N w W /\ N + 1 + 1 + 1 + 1 <= W.heap.size)
  (fun c pre W => c = .ret /\ Hid (Fs flow pre = false) /\ Boxed W (N + 1) 4 (.bool false) /\ Below N w W)
  ?hI ?hIx ⟨hid rfl, b0, b1, b2, hb0, by omega⟩ ?round ?done ?stop
 case hI =>
  rintro pre X Y ⟨h1, h2, h3, h4, h5, h6⟩ ht
  exact ⟨h1, Ah h2 ht (by omega), Ah h3 ht (by omega), Ah h4 ht (by omega), ht.below h5 (fun k hk => by omega) (by omega) (by omega), Nat.le_trans h6 ht.size⟩
 case hIx =>
  rintro c pre X Y ⟨h1, h2, h3, h5⟩ ht
  exact ⟨h1, h2, Ah h3 ht (by omega), ht.below h5 (fun k hk => by omega) (by omega) (by omega)⟩
 case round =>
  rintro l pre ⟨r, la, nx⟩ W hl ⟨h1, h2, h3, h4, h5, h6⟩ hpre
  have hr : r <= 1114111 := OI hpre
  obtain ⟨b, hb⟩ : ∃ b, W.heap.size = b := ⟨_, rfl⟩
  gi_wp2
  refine ⟨Ag.alloc _ _, fun Wb ht _ => ?_⟩
  have g2 := Ah (h2.alloc _) ht (by omega)
  have g3 := Ah (h3.alloc _) ht (by omega)
  have g4 := Ah (h4.alloc _) ht (by omega)
  have g5 : Below N w Wb := ht.below (h5.alloc (by have := h5.size; omega) _) (fun k hk => by omega) (by omega) (by omega)
  have hnb : Wb.heap[b]? = some (.cells #[.int .i32 la, .int .i32 nx] 299) := ht.heap (by rw [<- hb]; exact Wn _ _) (by omega) rfl
  have g5z : N <= Wb.heap.size := by rw [<- hN]; exact g5.size
  have g6 : N + 1 + 1 + 1 + 1 <= Wb.heap.size := by have := ht.size; simp at this; omega
  have n0 : Wb.cell? ⟨b, 0, none⟩ = some (.int .i32 la) := by simp [World.cell?, hnb]
  have n1 : Wb.cell? ⟨b, 1, none⟩ = some (.int .i32 nx) := by simp [World.cell?, hnb]
  have c4 := g4.cell
  have c2 := g2.cell
  have c3 := g3.cell
  have f3 := g3.frozen
  have stop : ∀ w1, Below Wb.heap.size Wb w1 -> ER flow (r, la, nx) = true -> Ag Av (· = N + 1 + 1 + 1) N Wb (w1.setCell ⟨N + 1, 0, none⟩ (.bool false)) /\ Hid (Fs flow (pre ++ [(r, la, nx)]) = false) /\ Boxed (w1.setCell ⟨N + 1, 0, none⟩ (.bool false)) (N + 1) 4 (.bool false) /\ Below N w (w1.setCell ⟨N + 1, 0, none⟩ (.bool false)) := fun w1 hb1 hbad =>
   ⟨(Ag.of_below hb1).trans (Ag.setCell _ _ _ (by simp) (by simp)), hid (by rw [Jj, hbad]; simp), (Ac g3 hb1).set _, (g5.trans (hb1.mono g5z)).setCell (p := ⟨N + 1, 0, none⟩) (by simp) _⟩
  have STOP := hid stop; clear stop
  have go : ∀ w1, Below Wb.heap.size Wb w1 -> ER flow (r, la, nx) = false -> Ag Av (· = N + 1 + 1 + 1) N Wb w1 /\ Hid (Fs flow (pre ++ [(r, la, nx)]) = true) /\ Boxed w1 N 4 (.bool flow) /\ Boxed w1 (N + 1) 4 (.bool false) /\ Boxed w1 (N + 1 + 1) 101 (.func (.func 192) #[] #[.pointer (some ⟨N, 0, none⟩)]) /\ Below N w w1 /\ N + 1 + 1 + 1 + 1 <= w1.heap.size := fun w1 hb1 hok =>
   ⟨Ag.of_below hb1, hid (by rw [Jj, hok, h1.out]; rfl), Ac g2 hb1, Ac g3 hb1, Ac g4 hb1, g5.trans (hb1.mono g5z), Nat.le_trans g6 hb1.size⟩
  have GO := hid go; clear go
  clear h2 h3 h4 hnb g2 ht
  by_cases hA : r < 32
  ·have hAi : (r : Int) < 32 := by omega
   gi_wp2
   exact have h := STOP.out _ (Bq _ _) (by simp [ER, hA]); ⟨h.1, rfl, h.2⟩
  have hAi : ¬ (r : Int) < 32 := by omega
  by_cases hB : r = 127
  ·have hBi : ((r : Int) == 127) = true := by simp; omega
   have HB := hid hB; clear hB
   gi_wp2
   exact have h := STOP.out _ (Bq _ _) (by simp [ER, HB.out]); ⟨h.1, rfl, h.2⟩
  have hBi : ((r : Int) == 127) = false := by simp; omega
  gi_wp2_with fail
  refine (CallsIn.inRound l (callsIn_wide.2 (L0 r flow N _ hr c2))).mono ?_
  rintro e w1 ⟨rfl, hb1⟩
  have c3' := Ab c3 hb1
  have f3' := GH c3 f3 hb1
  have n0' := Ab n0 hb1
  have n1' := Ab n1 hb1
  clear c3 f3 n0 n1 c2 c4
  have HC0 : Hid (∀ b, (flow && F4 r) = b -> (flow && (r == 44 || r == 91 || r == 93 || r == 123 || r == 125)) = b) := hid (fun b h => h)
  by_cases hC : (flow && F4 r) = true
  ·have HC := hid hC
   rw [hC]
   clear hC
   gi_wp2
   exact have h := STOP.out _ hb1 (by simp [ER, HC0.out _ HC.out]); ⟨h.1, rfl, h.2⟩
  have hC' : (flow && F4 r) = false := by simpa using hC
  have HC := hid hC'
  rw [hC']
  clear hC hC'
  by_cases hD : r = 58
  ·have hDi : ((r : Int) == 58) = true := by simp; omega
   have hEi : ((r : Int) == 35) = false := by simp; omega
   have HD := hid hD; clear hD
   gi_wp2_with fail
   refine (CallsIn.inRound l (callsIn_wide.2 (F9 nx [0, 32] _ _ _ rfl (by decide)))).mono ?_
   rintro e w2 ⟨rfl, hb2⟩
   have hb12 : Below Wb.heap.size Wb w2 := hb1.trans (hb2.mono hb1.size)
   have c3'' := Ab c3' hb2
   have f3'' := GH c3' f3' hb2
   have n0'' := Ab n0' hb2
   clear c3' f3' n0' n1'
   cases hm : BT [0, 32] (nx : Int) with
   | true =>
    have HM := hid (MM hm); clear hm
    gi_wp2
    exact have h := STOP.out _ hb12 (by simp [ER, HD.out, HM.out]); ⟨h.1, rfl, h.2⟩
   | false =>
    have HM := hid (MM hm); clear hm
    gi_wp2
    exact GO.out _ hb12 (by simp [ER, HD.out, HM.out])
  have hDi : ((r : Int) == 58) = false := by simp; omega
  have HD := hid hD; clear hD
  by_cases hE : r = 35
  ·have hEi : ((r : Int) == 35) = true := by simp; omega
   have HE := hid hE; clear hE
   by_cases hL : la = 32
   ·have hLi : ((la : Int) == 32) = true := by simp; omega
    have HL := hid hL; clear hL
    gi_wp2
    exact have h := STOP.out _ hb1 (by simp [ER, HE.out, HL.out]); ⟨h.1, rfl, h.2⟩
   ·have hLi : ((la : Int) == 32) = false := by simp; omega
    have HL := hid hL; clear hL
    gi_wp2
    exact GO.out _ hb1 (by have := HC0.out _ HC.out; simp [ER, HE.out, HL.out])
  ·have hEi : ((r : Int) == 35) = false := by simp; omega
   have HE := hid hE; clear hE
   have HA := hid hA
   have HB := hid hB
   gi_wp2
   exact GO.out _ hb1 (by simp [ER, HA.out, HB.out, HD.out, HE.out, HC0.out _ HC.out])
 case done =>
  rintro D W hD ⟨h1, h2, h3, h4, h5, h6⟩ hK
  have c3 := h3.cell
  have f3 := h3.frozen
  go_wp2
  have h3' := h3.set (.bool true)
  have hK' : (W.setCell ⟨N + 1, 0, none⟩ (.bool true)).heap[D]? = some (.deferred (some [])) := (KeepsOthers.setCell W ⟨N + 1, 0, none⟩ (.bool true)).same D _ hK rfl
  refine ⟨by simp, .inl ⟨_, _, rfl, run_takeDeferred hK', ?_⟩⟩
  have hc5 := (Ar h3' hK' (.deferred none)).cell
  refine ⟨.bool true, by simp [results, Tryz.f180, go_sem, hc5], by rw [show I5 s.data.toList flow = true from h1.out], ?_⟩
  rw [hN]; exact Cp (h5.setCell (p := ⟨N + 1, 0, none⟩) (by simp) _) hK' (by omega) (by omega) _
 case stop =>
  rintro D c pre W hD hpre ⟨rfl, h2, h3, h5⟩ hK
  refine wpIn_wide.2 ?_
  go_wp2
  refine ⟨by simp, .inl ⟨_, _, rfl, run_takeDeferred hK, ?_⟩⟩
  have hc5 := (Ar h3 hK (.deferred none)).cell
  have hall : I5 s.data.toList flow = false := NL hpre h2.out
  refine ⟨.bool false, by simp [results, Tryz.f180, go_sem, hc5], by rw [hall], ?_⟩
  rw [hN]; exact Cp h5 hK (by omega) (by omega) _
theorem SH (s : ByteArray) (w : World) (hs : s.size <= 1000000) :
  Calls Tryz.prog 190 #[.string s, .string ⟨#[32]⟩] w fun e w' => e = .returned (.string ⟨(Lib.trimB s.data.toList 32).toArray⟩) /\ Below w.heap.size w w' := by
 refine (Tryz.strings_Trim_one s 32 (by decide) w (by omega)).mono ?_
 rintro e w' ⟨rfl, hw⟩
 refine ⟨rfl, ?_⟩
 rcases hw with rfl | rfl
 ·exact Bq _ _
 ·exact (Bq _ _).drew
theorem GV (s : ByteArray) (h0 : 0 < s.size) : s.data.toList = s[0]'h0 :: (s.extract 1 s.size).data.toList := by
 rw [Lib.extract_data, List.take_of_length_le (by rw [List.length_drop, <- Lib.size_eq]; omega)]
 have hl : 0 < s.data.toList.length := by rw [<- Lib.size_eq]; exact h0
 have := List.drop_eq_getElem_cons hl
 rw [List.drop_zero] at this
 rw [Nat.zero_add] at this
 exact this
theorem ST (d e : UInt8) : ((d.toNat : Int) != (e.toNat : Int)) = !(d == e) := by
 rw [Bool.eq_iff_iff]
 simp [<- UInt8.toNat_inj]
 omega
theorem AX {s : ByteArray} (h : 0 < s.size) : s.toList.isEmpty = false := by
 rw [Lib.toList_data]
 cases h' : s.data.toList with
 | nil => exact absurd (by rw [Lib.size_eq, h']; rfl) (show s.size ≠ 0 by omega)
 | cons _ _ => rfl
theorem Bt {s : ByteArray} (h : ¬ 0 < s.size) : s.toList.isEmpty = true := by
 rw [Dc (show s.size = 0 by omega), Lib.toList_data]; rfl
theorem ME (s : ByteArray) (w : World) (hs : s.size <= 1000000) (h0 : 0 < s.size) :
  Calls Tryz.prog 179 #[.string s] w fun e w' => e = .returned (.bool (Ct s.data.toList)) /\ Below w.heap.size w w' := by
 have h0i : (0 : Int) < (s.size : Int) := by omega
 have h1i : (1 : Int) <= (s.size : Int) := by omega
 have hl := GV s h0
 obtain ⟨c, hc⟩ : ∃ c, s[0]'h0 = c := ⟨_, rfl⟩
 obtain ⟨R, hR⟩ : ∃ R, s.extract 1 s.size = R := ⟨_, rfl⟩
 rw [hc, hR] at hl
 have HL := hid hl; clear hl
 have hcb : (c.toNat : Int) < 256 := by have := c.toNat_lt; omega
 go_enter Tryz.func179, Tryz.ntmps179
 go_wp2
 go_quiet (fail)
 have hb0 := Ae (n := nq) (Bq w.heap.size w)
 generalize w.drewN nq = w0 at hb0 |-
 go_wp2_with fail
 refine (SH s _ hs).mono ?_
 rintro e w1 ⟨rfl, hb1⟩
 have hb01 : Below w.heap.size w w1 := hb0.trans (hb1.mono hb0.size)
 clear hb0 hb1
 by_cases hT : trimB s.data.toList 32 = s.data.toList
 ·have hTi : (!trimB s.data.toList 32 == s.toList) = false := by rw [Lib.toList_data, hT]; simp
  have HT := hid hT; clear hT
  go_wp2_with fail
  refine (Tryz.strings_IndexByte ⟨Iw.toArray⟩ c.toNat _).mono ?_
  rintro e w2 ⟨rfl, hw2⟩
  subst hw2
  obtain ⟨k, hk⟩ : ∃ k, Lib.indexByte Iw c = k := ⟨_, rfl⟩
  have hk' : Lib.indexByte (⟨Iw.toArray⟩ : ByteArray).data.toList ((c.toNat : Int).toNat.toUInt8) = k := by rw [<- hk]; simp
  rw [hk']
  clear hk'
  have HK := hid hk; clear hk
  by_cases hk0 : 0 <= k
  ·go_wp2
   go_ret
   exact ⟨by rw [show Ct s.data.toList = false from (by unfold Ct; rw [HT.out, HL.out]; simp only [List.headD_cons, List.tail_cons, HK.out]; simp [hk0])]; rfl, hb01⟩
  ·go_wp2_with fail
   refine (F9 c.toNat [45, 63, 58] _ _ _ rfl (by decide)).mono ?_
   rintro e w3 ⟨rfl, hb3⟩
   have hb03 : Below w.heap.size w w3 := hb01.trans (hb3.mono hb01.size)
   clear hb3
   cases hm : BT [45, 63, 58] (c.toNat : Int) with
   | false =>
    have HM := hid hm; clear hm
    go_wp2
    go_ret
    exact ⟨by rw [show Ct s.data.toList = true from (by unfold Ct; rw [HT.out, HL.out]; simp only [List.headD_cons, List.tail_cons, HK.out, HM.out]; simp [hk0])]; rfl, hb03⟩
   | true =>
    have HM := hid hm; clear hm
    by_cases hR0 : 0 < R.size
    ·have hRe := AX hR0
     have hRi : (0 : Int) < (R.size : Int) := by omega
     have hl2 := GV R hR0
     obtain ⟨d, hd⟩ : ∃ d, R[0]'hR0 = d := ⟨_, rfl⟩
     rw [hd] at hl2
     have HL2 := hid hl2; clear hl2
     go_wp2
     go_ret
     exact ⟨by rw [show Ct s.data.toList = ((d.toNat : Int) != 32) from (by unfold Ct; rw [HT.out, HL.out]; simp only [List.headD_cons, List.tail_cons, HK.out, HM.out, HL2.out]; rw [show ((d.toNat : Int) != 32) = !(d == 32) from ST d 32]; simp [hk0])]; rfl, hb03⟩
    ·have hRe := Bt hR0
     go_wp2
     go_ret
     exact ⟨by rw [show Ct s.data.toList = false from (by unfold Ct; rw [HT.out, HL.out]; simp only [List.headD_cons, List.tail_cons, HK.out, HM.out]; rw [show R.data.toList = [] from (by rw [Dc (show R.size = 0 by omega)])]; simp)]; rfl, hb03⟩
 ·have hTi : (!trimB s.data.toList 32 == s.toList) = true := by rw [Lib.toList_data]; simpa using hT
  have HT := hid hT; clear hT
  go_wp2
  go_ret
  exact ⟨by rw [show Ct s.data.toList = false from (by unfold Ct; rw [show (trimB s.data.toList 32 == s.data.toList) = false from (by simpa using HT.out)]; simp)]; rfl, hb01⟩
theorem OU (s : ByteArray) (flow : Bool) (w : World) (hs : s.size <= 1000000) (hT : Bz w) :
  Calls Tryz.prog 163 #[.string s, .bool flow] w fun e w' => e = .returned (.bool (Gh s.data.toList flow)) /\ Below w.heap.size w w' := by
 by_cases h0 : 0 < s.size
 ·have he := AX h0
  have hne : s.data.toList.isEmpty = false := by rw [<- Lib.toList_data]; exact he
  have HE := hid hne; clear hne
  go_enter Tryz.func163, Tryz.ntmps163
  go_wp2_with fail
  refine (Cg s _ hs hT).mono ?_
  rintro e w1 ⟨rfl, hb1⟩
  cases hv : validD s.data.toList with
  | false =>
   have HV := hid hv; clear hv
   go_wp2
   go_ret
   exact ⟨by rw [show Gh s.data.toList flow = false from (by unfold Gh; rw [HV.out]; simp)]; rfl, hb1⟩
  | true =>
   have HV := hid hv; clear hv
   go_wp2_with fail
   refine (ME s _ hs h0).mono ?_
   rintro e w2 ⟨rfl, hb2⟩
   have hb02 : Below w.heap.size w w2 := hb1.trans (hb2.mono hb1.size)
   cases hb : Ct s.data.toList with
   | false =>
    have HB := hid hb; clear hb
    go_wp2
    go_ret
    exact ⟨by rw [show Gh s.data.toList flow = false from (by unfold Gh; rw [HV.out, HB.out]; simp)]; rfl, hb02⟩
   | true =>
    have HB := hid hb; clear hb
    go_wp2_with fail
    refine (Oe s flow _ hs).mono ?_
    rintro e w3 ⟨rfl, hb3⟩
    go_wp2
    go_ret
    exact ⟨by rw [show Gh s.data.toList flow = I5 s.data.toList flow from (by unfold Gh; rw [HV.out, HB.out, HE.out]; simp)]; rfl, hb02.trans (hb3.mono hb02.size)⟩
 ·have he := Bt h0
  have hne : s.data.toList.isEmpty = true := by rw [<- Lib.toList_data]; exact he
  have HE := hid hne; clear hne
  go_enter Tryz.func163, Tryz.ntmps163
  go_wp2
  go_ret
  exact ⟨by rw [show Gh s.data.toList flow = false from (by unfold Gh; rw [HE.out]; simp)]; rfl, Bq _ _⟩
end
section
def M5 (n : Int) : Bool := decide (0 <= n) && decide (n <= 1114111) && (decide (n < 55296) || decide (57343 < n))
def Ch (n : Int) : Bool := decide (32 <= n) && !(n == 127)
theorem N2 (s : ByteArray) (a k : Nat) : (s.extract a (a + k)).toList = (s.data.toList.drop a).take k := by
 rw [Lib.toList_data, Lib.extract_data, Nat.add_sub_cancel_left]
end
section
theorem b8 (z : Int) (x : UInt8) (h0 : 0 <= z) (h1 : z < 256) (h : z.toNat.toUInt8 = x) : (x.toNat : Int) = z := by
 subst h
 simp
 omega
theorem GX (v : Int) : M5 v = true ↔ 0 <= v /\ v <= 1114111 /\ (v < 55296 \/ 57343 < v) := by
 unfold M5; simp [and_assoc]
theorem Iu (v : Int) (hv : M5 v = true) (t : List UInt8) : decodeL (encodeRune v ++ t) = (v.toNat, (encodeRune v).length) := by
 obtain ⟨h0, h1, h2⟩ := (GX v).1 hv
 rw [decodeL_N]
 unfold encodeRune
 by_cases c1 : v < 128
 ·rw [encodeRuneZ_one (by omega) (by omega)]
  simp only [List.map_cons, List.map_nil, List.cons_append, List.nil_append, List.length_cons, List.getD_cons_zero, List.getD_cons_succ, List.length_nil]
  have e0 := b8 v _ (by omega) (by omega) rfl
  generalize v.toNat.toUInt8 = x0 at *
  unfold decodeN
  rw [if_pos (by omega)]
  congr 1; omega
 by_cases c2 : v < 2048
 ·rw [encodeRuneZ_two (by omega) (by omega)]
  simp only [List.map_cons, List.map_nil, List.cons_append, List.nil_append, List.length_cons, List.getD_cons_zero, List.getD_cons_succ, List.length_nil]
  have e0 := b8 (192 + v / 64) _ (by omega) (by omega) rfl
  have e1 := b8 (128 + v % 64) _ (by omega) (by omega) rfl
  generalize (192 + v / 64).toNat.toUInt8 = x0 at *
  generalize (128 + v % 64).toNat.toUInt8 = x1 at *
  unfold decodeN
  rw [if_neg (by omega), if_pos (by omega), if_pos (by omega)]
  congr 1; omega
 by_cases c3 : v < 65536
 ·rw [encodeRuneZ_three (by omega)]
  simp only [List.map_cons, List.map_nil, List.cons_append, List.nil_append, List.length_cons, List.getD_cons_zero, List.getD_cons_succ, List.length_nil]
  have e0 := b8 (224 + v / 4096) _ (by omega) (by omega) rfl
  have e1 := b8 (128 + v / 64 % 64) _ (by omega) (by omega) rfl
  have e2 := b8 (128 + v % 64) _ (by omega) (by omega) rfl
  generalize (224 + v / 4096).toNat.toUInt8 = x0 at *
  generalize (128 + v / 64 % 64).toNat.toUInt8 = x1 at *
  generalize (128 + v % 64).toNat.toUInt8 = x2 at *
  unfold decodeN
  rw [if_neg (by omega), if_neg (by omega), if_pos (by omega), if_pos (by omega)]
  congr 1; omega
 ·rw [encodeRuneZ_four (by omega) (by omega)]
  simp only [List.map_cons, List.map_nil, List.cons_append, List.nil_append, List.length_cons, List.getD_cons_zero, List.getD_cons_succ, List.length_nil]
  have e0 := b8 (240 + v / 262144) _ (by omega) (by omega) rfl
  have e1 := b8 (128 + v / 4096 % 64) _ (by omega) (by omega) rfl
  have e2 := b8 (128 + v / 64 % 64) _ (by omega) (by omega) rfl
  have e3 := b8 (128 + v % 64) _ (by omega) (by omega) rfl
  generalize (240 + v / 262144).toNat.toUInt8 = x0 at *
  generalize (128 + v / 4096 % 64).toNat.toUInt8 = x1 at *
  generalize (128 + v / 64 % 64).toNat.toUInt8 = x2 at *
  generalize (128 + v % 64).toNat.toUInt8 = x3 at *
  unfold decodeN
  rw [if_neg (by omega), if_neg (by omega), if_neg (by omega), if_pos (by omega), if_pos (by omega)]
  congr 1; omega
theorem Np (v : Int) (h : v.toNat = 65533) : (encodeRune v).length = 3 := by
 have : v = 65533 := by omega
 subst this; decide
theorem Cf {w w' : World} {base : Nat} {e : TypeId} {size : Nat} {v : Value} {n : Nat} {xs : List Value} (h : w.ownsRow base e size v n xs) (hb : Below w.heap.size w w') : w'.ownsRow base e size v n xs := by
 obtain ⟨h1, h2⟩ := h
 refine ⟨h1, ?_⟩
 rcases h2 with h2 | ⟨g, cap, cur, hv, hg, hh, r⟩
 ·exact Or.inl h2
 ·exact Or.inr ⟨g, cap, cur, hv, hg, Aa hh hb, r⟩
def Bm (l : List UInt8) (c : UInt8) : Bool := l.contains c
theorem OD {l : List UInt8} {c : UInt8} : Bm l c = true ↔ c ∈ l := List.contains_iff_mem
theorem JJ {l : List UInt8} {c : UInt8} {k : Nat} (h : k < l.length) : Bm (l.take (k + 1)) c = (Bm (l.take k) c || c == l[k]) := by
 unfold Bm
 rw [Bool.eq_iff_iff, List.contains_iff_mem, List.take_succ_eq_append_getElem h, List.mem_append, List.mem_singleton, Bool.or_eq_true, List.contains_iff_mem, beq_iff_eq]
end
section
def CN : List UInt8 := [44, 91, 93, 123, 125]
theorem Ld (d e : UInt8) : ((d.toNat : Int) == (e.toNat : Int)) = (d == e) := by
 rw [Bool.eq_iff_iff]
 simp [<- UInt8.toNat_inj]
 omega
theorem Cw (s : ByteArray) (i : Nat) (h : i < s.size) : s.data.toList.getD i 0 = s[i]'h := by
 have h2 : i < s.data.toList.length := by rw [<- Lib.size_eq]; exact h
 rw [List.getD, List.getElem?_eq_getElem h2]
 rfl
end
section
theorem Sr (v : Int) (h : 128 <= v) : ∀ b ∈ encodeRune v, 128 <= b.toNat := by
 intro b hb
 unfold encodeRune at hb
 obtain ⟨z, hz, rfl⟩ := List.mem_map.1 hb
 have hb2 := encodeRuneZ_byte v z hz
 have h128 : 128 <= z := by
  by_cases c1 : v <= 2047
  ·rw [encodeRuneZ_two h c1] at hz; simp at hz; omega
  by_cases c2 : v <= 65535
  ·by_cases c3 : v < 55296 \/ 57343 < v
   ·rw [encodeRuneZ_three (by omega)] at hz; simp at hz; omega
   ·rw [encodeRuneZ_bad (by omega)] at hz; simp at hz; omega
  ·by_cases c3 : v <= 1114111
   ·rw [encodeRuneZ_four (by omega) c3] at hz; simp at hz; omega
   ·rw [encodeRuneZ_bad (by omega)] at hz; simp at hz; omega
 have := b8 z _ (by omega) (by omega) rfl
 omega
theorem Hj (b : UInt8) (t : List UInt8) (h : 128 <= b.toNat) : 128 <= (decodeL (b :: t)).1 := by
 have := decode_high ⟨(b :: t).toArray⟩ 0 (by rw [Lib.size_eq]; simp) (show 128 <= b.toNat from h)
 exact this.1
def Aq (r : Nat) : Bool := Ch (r : Int)
theorem Gv (c : UInt8) : ∀ l : List UInt8, (l.dropWhile (· == c)).length <= l.length
 | [] => by simp
 | b :: t => by
  rw [List.dropWhile_cons]
  split
  ·have := Gv c t; simp; omega
  ·simp
end
end Go.Proofs.YtaogfdffgdglkaaGreatDoor
