import Derived.Test.YtiinnnbpbnojgaaGreatDoorWd
import Derived.Laws.EntriesVeiled
namespace Go.Proofs.YtiinnnbpbnojgaaGreatDoor
open Go Go.RowKit Go.Lib
attribute [local go_sem] Oper.semAt_some wide_fn wide_depth

set_option maxHeartbeats 400000 in
theorem pairs_any (s : ByteArray) (w : World) :
    Calls Tryz.prog 186 #[.string s] w fun e w' => e = .returned (.func (.func 219) #[] #[.pointer (some ⟨w.heap.size, 0, none⟩)]) ∧ w' = w.alloc (.cells #[.string s] 9) := by
  go_enter Tryz.func186, Tryz.ntmps186
  go_wp2
  go_ret
  exact ⟨rfl, rfl⟩

set_option maxRecDepth 100000 in
set_option maxHeartbeats 1000000 in
theorem isLong_any (s : ByteArray) (flow : Bool) (w : World) (hs : s.size ≤ 1000000) :
    Calls Tryz.prog 143 #[.string s, .bool flow] w fun e w' => e = .returned (.bool (longOK s.data.toList flow)) ∧ Below w.heap.size w w' := by
  refine (callsIn_wide (n := 0)).1 ?_
  refine callsIn_of_wp_marks Tryz.func143 rfl trivial ?_ rfl
  refine wpIn_wide.2 ?_
  simp only [Tryz.ntmps143, List.size_toArray, List.length_cons, List.length_nil, Nat.reduceAdd, Nat.reduceSub, Array.replicate_succ, Array.replicate_zero, List.push_toArray, List.append_toArray, List.nil_append, List.cons_append]
  obtain ⟨N, hN⟩ : ∃ N, w.heap.size = N := ⟨_, rfl⟩
  go_wp2_with fail
  refine (pairs_any s _).mono ?_
  rintro e w0 ⟨rfl, hw0⟩
  have hz : w0.heap.size = N + 1 + 1 + 1 + 1 := by rw [hw0]; simp [hN]
  have hb0 : Below N w w0 := by rw [hw0]; exact ((((Below.refl N w).alloc (by omega) _).alloc (by simp; omega) _).alloc (by simp; omega) _).alloc (by simp; omega) _
  have b0 : Boxed w0 N 4 (.bool flow) := by rw [hw0, ← hN]; exact (((Boxed.new w _ _).alloc _).alloc _).alloc _
  have b1 : Boxed w0 (N + 1) 4 (.bool false) := by have := Boxed.new (w.alloc (.cells #[.bool flow] 4)) 4 (.bool false); rw [World.size_alloc, hN] at this; rw [hw0]; exact (this.alloc _).alloc _
  have b2 : Boxed w0 (N + 1 + 1) 128 (.func (.func 185) #[] #[.pointer (some ⟨N, 0, none⟩)]) := by have := Boxed.new ((w.alloc (.cells #[.bool flow] 4)).alloc (.cells #[.bool false] 4)) 128 (.func (.func 185) #[] #[.pointer (some ⟨N, 0, none⟩)]); rw [World.size_alloc, World.size_alloc, hN] at this; rw [hw0]; exact this.alloc _
  have b3 : Boxed w0 (N + 1 + 1 + 1) 9 (.string s) := by rw [hw0]; have := Boxed.new (((w.alloc (.cells #[.bool flow] 4)).alloc (.cells #[.bool false] 4)).alloc (.cells #[.func (.func 185) #[] #[.pointer (some ⟨N, 0, none⟩)]] 128)) 9 (.string s); rw [World.size_alloc, World.size_alloc, World.size_alloc, hN] at this; exact this
  rw [World.size_alloc, World.size_alloc, World.size_alloc, hN]
  clear hw0
  go_wp2
  refine (wpIn_wide (n := 0)).1 ?_
  refine rangeFunc_law (gf := 219) (lb := #[.pointer (some ⟨N + 1 + 1 + 1, 0, none⟩)]) rfl (enters_of Tryz.func219 (by kernel_rfl) rfl) (pairs_iter s (N + 1 + 1 + 1) N hs)
    (fun Y hY => ⟨(boxed_below b3 hY).cell, (boxed_below b3 hY).frozen⟩) (fun k hk => by subst hk; omega) (by omega) (fun _ => rfl)
    (fun pre W => Hid (okAll flow pre = true) ∧ Boxed W N 4 (.bool flow) ∧ Boxed W (N + 1) 4 (.bool false) ∧ Boxed W (N + 1 + 1) 128 (.func (.func 185) #[] #[.pointer (some ⟨N, 0, none⟩)]) ∧ Below N w W ∧ N + 1 + 1 + 1 + 1 ≤ W.heap.size)
    (fun c pre W => c = .ret ∧ Hid (okAll flow pre = false) ∧ Boxed W (N + 1) 4 (.bool false) ∧ Below N w W)
    ?hI ?hIx ⟨hid rfl, b0, b1, b2, hb0, by omega⟩ ?round ?done ?stop
  case hI =>
    rintro pre X Y ⟨h1, h2, h3, h4, h5, h6⟩ ht
    exact ⟨h1, boxed_turn h2 ht (by omega), boxed_turn h3 ht (by omega), boxed_turn h4 ht (by omega), ht.below h5 (fun k hk => by omega) (by omega) (by omega), Nat.le_trans h6 ht.size⟩
  case hIx =>
    rintro c pre X Y ⟨h1, h2, h3, h5⟩ ht
    exact ⟨h1, h2, boxed_turn h3 ht (by omega), ht.below h5 (fun k hk => by omega) (by omega) (by omega)⟩
  case round =>
    rintro l pre ⟨r, la, nx⟩ W hl ⟨h1, h2, h3, h4, h5, h6⟩ hpre
    have hr : r ≤ 1114111 := pairs_rune hpre
    obtain ⟨b, hb⟩ : ∃ b, W.heap.size = b := ⟨_, rfl⟩
    gi_wp2
    refine ⟨Keeps.alloc _ _, fun Wb ht _ => ?_⟩
    have g2 := boxed_turn (h2.alloc _) ht (by omega)
    have g3 := boxed_turn (h3.alloc _) ht (by omega)
    have g4 := boxed_turn (h4.alloc _) ht (by omega)
    have g5 : Below N w Wb := ht.below (h5.alloc (by have := h5.size; omega) _) (fun k hk => by omega) (by omega) (by omega)
    have hnb : Wb.heap[b]? = some (.cells #[.int .i32 la, .int .i32 nx] 299) := ht.heap (by rw [← hb]; exact World.alloc_heap_new _ _) (by omega) rfl
    have g5z : N ≤ Wb.heap.size := by rw [← hN]; exact g5.size
    have g6 : N + 1 + 1 + 1 + 1 ≤ Wb.heap.size := by have := ht.size; simp at this; omega
    have n0 : Wb.cell? ⟨b, 0, none⟩ = some (.int .i32 la) := by simp [World.cell?, hnb]
    have n1 : Wb.cell? ⟨b, 1, none⟩ = some (.int .i32 nx) := by simp [World.cell?, hnb]
    have c4 := g4.cell
    have c2 := g2.cell
    have c3 := g3.cell
    have f3 := g3.frozen
    have stop : ∀ w1, Below Wb.heap.size Wb w1 → badAt flow (r, la, nx) = true → Keeps noCells (· = N + 1 + 1 + 1) N Wb (w1.setCell ⟨N + 1, 0, none⟩ (.bool false)) ∧ Hid (okAll flow (pre ++ [(r, la, nx)]) = false) ∧ Boxed (w1.setCell ⟨N + 1, 0, none⟩ (.bool false)) (N + 1) 4 (.bool false) ∧ Below N w (w1.setCell ⟨N + 1, 0, none⟩ (.bool false)) := fun w1 hb1 hbad =>
      ⟨(Keeps.of_below hb1).trans (Keeps.setCell _ _ _ (by simp) (by simp)), hid (by rw [okAll_snoc, hbad]; simp), (boxed_below g3 hb1).set _, (g5.trans (hb1.mono g5z)).setCell (p := ⟨N + 1, 0, none⟩) (by simp) _⟩
    have STOP := hid stop; clear stop
    have go : ∀ w1, Below Wb.heap.size Wb w1 → badAt flow (r, la, nx) = false → Keeps noCells (· = N + 1 + 1 + 1) N Wb w1 ∧ Hid (okAll flow (pre ++ [(r, la, nx)]) = true) ∧ Boxed w1 N 4 (.bool flow) ∧ Boxed w1 (N + 1) 4 (.bool false) ∧ Boxed w1 (N + 1 + 1) 128 (.func (.func 185) #[] #[.pointer (some ⟨N, 0, none⟩)]) ∧ Below N w w1 ∧ N + 1 + 1 + 1 + 1 ≤ w1.heap.size := fun w1 hb1 hok =>
      ⟨Keeps.of_below hb1, hid (by rw [okAll_snoc, hok, h1.out]; rfl), boxed_below g2 hb1, boxed_below g3 hb1, boxed_below g4 hb1, g5.trans (hb1.mono g5z), Nat.le_trans g6 hb1.size⟩
    have GO := hid go; clear go
    clear h2 h3 h4 hnb g2 ht
    by_cases hA : r < 32
    · have hAi : (r : Int) < 32 := by omega
      gi_wp2
      exact have h := STOP.out _ (Below.refl _ _) (by simp [badAt, hA]); ⟨h.1, rfl, h.2⟩
    have hAi : ¬ (r : Int) < 32 := by omega
    by_cases hB : r = 127
    · have hBi : ((r : Int) == 127) = true := by simp; omega
      have HB := hid hB; clear hB
      gi_wp2
      exact have h := STOP.out _ (Below.refl _ _) (by simp [badAt, HB.out]); ⟨h.1, rfl, h.2⟩
    have hBi : ((r : Int) == 127) = false := by simp; omega
    gi_wp2_with fail
    refine (CallsIn.inRound l (callsIn_wide.2 (isBarred_any r flow N _ hr c2))).mono ?_
    rintro e w1 ⟨rfl, hb1⟩
    have c3' := cell_below c3 hb1
    have f3' := frozen_below c3 f3 hb1
    have n0' := cell_below n0 hb1
    have n1' := cell_below n1 hb1
    clear c3 f3 n0 n1 c2 c4
    have HC0 : Hid (∀ b, (flow && isFlow r) = b → (flow && (r == 44 || r == 91 || r == 93 || r == 123 || r == 125)) = b) := hid (fun b h => h)
    by_cases hC : (flow && isFlow r) = true
    · have HC := hid hC
      rw [hC]
      clear hC
      gi_wp2
      exact have h := STOP.out _ hb1 (by simp [badAt, HC0.out _ HC.out]); ⟨h.1, rfl, h.2⟩
    have hC' : (flow && isFlow r) = false := by simpa using hC
    have HC := hid hC'
    rw [hC']
    clear hC hC'
    by_cases hD : r = 58
    · have hDi : ((r : Int) == 58) = true := by simp; omega
      have hEi : ((r : Int) == 35) = false := by simp; omega
      have HD := hid hD; clear hD
      gi_wp2_with fail
      refine (CallsIn.inRound l (callsIn_wide.2 (isOne_new nx [0, 32] _ _ _ rfl (by decide)))).mono ?_
      rintro e w2 ⟨rfl, hb2⟩
      have hb12 : Below Wb.heap.size Wb w2 := hb1.trans (hb2.mono hb1.size)
      have c3'' := cell_below c3' hb2
      have f3'' := frozen_below c3' f3' hb2
      have n0'' := cell_below n0' hb2
      clear c3' f3' n0' n1'
      cases hm : memB [0, 32] (nx : Int) with
      | true =>
        have HM := hid (memB_nul hm); clear hm
        gi_wp2
        exact have h := STOP.out _ hb12 (by simp [badAt, HD.out, HM.out]); ⟨h.1, rfl, h.2⟩
      | false =>
        have HM := hid (memB_nul hm); clear hm
        gi_wp2
        exact GO.out _ hb12 (by simp [badAt, HD.out, HM.out])
    have hDi : ((r : Int) == 58) = false := by simp; omega
    have HD := hid hD; clear hD
    by_cases hE : r = 35
    · have hEi : ((r : Int) == 35) = true := by simp; omega
      have HE := hid hE; clear hE
      by_cases hL : la = 32
      · have hLi : ((la : Int) == 32) = true := by simp; omega
        have HL := hid hL; clear hL
        gi_wp2
        exact have h := STOP.out _ hb1 (by simp [badAt, HE.out, HL.out]); ⟨h.1, rfl, h.2⟩
      · have hLi : ((la : Int) == 32) = false := by simp; omega
        have HL := hid hL; clear hL
        gi_wp2
        exact GO.out _ hb1 (by have := HC0.out _ HC.out; simp [badAt, HE.out, HL.out])
    · have hEi : ((r : Int) == 35) = false := by simp; omega
      have HE := hid hE; clear hE
      have HA := hid hA
      have HB := hid hB
      gi_wp2
      exact GO.out _ hb1 (by simp [badAt, HA.out, HB.out, HD.out, HE.out, HC0.out _ HC.out])
  case done =>
    rintro D W hD ⟨h1, h2, h3, h4, h5, h6⟩ hK
    have c3 := h3.cell
    have f3 := h3.frozen
    go_wp2
    have h3' := h3.set (.bool true)
    have hK' : (W.setCell ⟨N + 1, 0, none⟩ (.bool true)).heap[D]? = some (.deferred (some [])) := (KeepsOthers.setCell W ⟨N + 1, 0, none⟩ (.bool true)).same D _ hK rfl
    refine ⟨by simp, .inl ⟨_, _, rfl, run_takeDeferred hK', ?_⟩⟩
    have hc5 := (boxed_shut h3' hK' (.deferred none)).cell
    refine ⟨.bool true, by simp [results, Tryz.f143, go_sem, hc5], by rw [show longOK s.data.toList flow = true from h1.out], ?_⟩
    rw [hN]; exact below_shut (h5.setCell (p := ⟨N + 1, 0, none⟩) (by simp) _) hK' (by omega) (by omega) _
  case stop =>
    rintro D c pre W hD hpre ⟨rfl, h2, h3, h5⟩ hK
    refine wpIn_wide.2 ?_
    go_wp2
    refine ⟨by simp, .inl ⟨_, _, rfl, run_takeDeferred hK, ?_⟩⟩
    have hc5 := (boxed_shut h3 hK (.deferred none)).cell
    have hall : longOK s.data.toList flow = false := okAll_stop hpre h2.out
    refine ⟨.bool false, by simp [results, Tryz.f143, go_sem, hc5], by rw [hall], ?_⟩
    rw [hN]; exact below_shut h5 hK (by omega) (by omega) _
end Go.Proofs.YtiinnnbpbnojgaaGreatDoor

namespace Go.Proofs.YtiinnnbpbnojgaaGreatDoor
open Go Go.RowKit Go.Lib

theorem Trim_any (s : ByteArray) (w : World) (hs : s.size ≤ 1000000) :
    Calls Tryz.prog 182 #[.string s, .string ⟨#[32]⟩] w fun e w' => e = .returned (.string ⟨(Lib.trimB s.data.toList 32).toArray⟩) ∧ Below w.heap.size w w' := by
  refine (Tryz.strings_Trim_one s 32 (by decide) w (by omega)).mono ?_
  rintro e w' ⟨rfl, hw⟩
  refine ⟨rfl, ?_⟩
  rcases hw with rfl | rfl
  · exact Below.refl _ _
  · exact (Below.refl _ _).drew

/-- The first byte of a text, and the rest. -/
theorem head_rest (s : ByteArray) (h0 : 0 < s.size) : s.data.toList = s[0]'h0 :: (s.extract 1 s.size).data.toList := by
  rw [Lib.extract_data, List.take_of_length_le (by rw [List.length_drop, ← Lib.size_eq]; omega)]
  have hl : 0 < s.data.toList.length := by rw [← Lib.size_eq]; exact h0
  have := List.drop_eq_getElem_cons hl
  rw [List.drop_zero] at this
  rw [Nat.zero_add] at this
  exact this

theorem byte_ne (d e : UInt8) : ((d.toNat : Int) != (e.toNat : Int)) = !(d == e) := by
  rw [Bool.eq_iff_iff]
  simp [← UInt8.toNat_inj]
  omega
theorem isEmpty_false {s : ByteArray} (h : 0 < s.size) : s.toList.isEmpty = false := by
  rw [Lib.toList_data]
  cases h' : s.data.toList with
  | nil => exact absurd (by rw [Lib.size_eq, h']; rfl) (show s.size ≠ 0 by omega)
  | cons _ _ => rfl
theorem isEmpty_true {s : ByteArray} (h : ¬ 0 < s.size) : s.toList.isEmpty = true := by
  rw [eq_empty_of_size (show s.size = 0 by omega), Lib.toList_data]; rfl

set_option maxRecDepth 100000 in
set_option maxHeartbeats 400000 in
theorem isBegun_any (s : ByteArray) (w : World) (hs : s.size ≤ 1000000) (h0 : 0 < s.size) :
    Calls Tryz.prog 142 #[.string s] w fun e w' => e = .returned (.bool (begunOK s.data.toList)) ∧ Below w.heap.size w w' := by
  have h0i : (0 : Int) < (s.size : Int) := by omega
  have h1i : (1 : Int) ≤ (s.size : Int) := by omega
  have hl := head_rest s h0
  obtain ⟨c, hc⟩ : ∃ c, s[0]'h0 = c := ⟨_, rfl⟩
  obtain ⟨R, hR⟩ : ∃ R, s.extract 1 s.size = R := ⟨_, rfl⟩
  rw [hc, hR] at hl
  have HL := hid hl; clear hl
  have hcb : (c.toNat : Int) < 256 := by have := c.toNat_lt; omega
  go_enter Tryz.func142, Tryz.ntmps142
  go_wp2
  go_quiet (fail)
  have hb0 := below_drewN (n := nq) (Below.refl w.heap.size w)
  generalize w.drewN nq = w0 at hb0 ⊢
  go_wp2_with fail
  refine (Trim_any s _ hs).mono ?_
  rintro e w1 ⟨rfl, hb1⟩
  have hb01 : Below w.heap.size w w1 := hb0.trans (hb1.mono hb0.size)
  clear hb0 hb1
  by_cases hT : trimB s.data.toList 32 = s.data.toList
  · have hTi : (!trimB s.data.toList 32 == s.toList) = false := by rw [Lib.toList_data, hT]; simp
    have HT := hid hT; clear hT
    go_wp2_with fail
    refine (Tryz.strings_IndexByte ⟨barredL.toArray⟩ c.toNat _).mono ?_
    rintro e w2 ⟨rfl, hw2⟩
    subst hw2
    obtain ⟨k, hk⟩ : ∃ k, Lib.indexByte barredL c = k := ⟨_, rfl⟩
    have hk' : Lib.indexByte (⟨barredL.toArray⟩ : ByteArray).data.toList ((c.toNat : Int).toNat.toUInt8) = k := by rw [← hk]; simp
    rw [hk']
    clear hk'
    have HK := hid hk; clear hk
    by_cases hk0 : 0 ≤ k
    · go_wp2
      go_ret
      exact ⟨by rw [show begunOK s.data.toList = false from (by unfold begunOK; rw [HT.out, HL.out]; simp only [List.headD_cons, List.tail_cons, HK.out]; simp [hk0])]; rfl, hb01⟩
    · go_wp2_with fail
      refine (isOne_new c.toNat [45, 63, 58] _ _ _ rfl (by decide)).mono ?_
      rintro e w3 ⟨rfl, hb3⟩
      have hb03 : Below w.heap.size w w3 := hb01.trans (hb3.mono hb01.size)
      clear hb3
      cases hm : memB [45, 63, 58] (c.toNat : Int) with
      | false =>
        have HM := hid hm; clear hm
        go_wp2
        go_ret
        exact ⟨by rw [show begunOK s.data.toList = true from (by unfold begunOK; rw [HT.out, HL.out]; simp only [List.headD_cons, List.tail_cons, HK.out, HM.out]; simp [hk0])]; rfl, hb03⟩
      | true =>
        have HM := hid hm; clear hm
        by_cases hR0 : 0 < R.size
        · have hRe := isEmpty_false hR0
          have hRi : (0 : Int) < (R.size : Int) := by omega
          have hl2 := head_rest R hR0
          obtain ⟨d, hd⟩ : ∃ d, R[0]'hR0 = d := ⟨_, rfl⟩
          rw [hd] at hl2
          have HL2 := hid hl2; clear hl2
          go_wp2
          go_ret
          exact ⟨by rw [show begunOK s.data.toList = ((d.toNat : Int) != 32) from (by unfold begunOK; rw [HT.out, HL.out]; simp only [List.headD_cons, List.tail_cons, HK.out, HM.out, HL2.out]; rw [show ((d.toNat : Int) != 32) = !(d == 32) from byte_ne d 32]; simp [hk0])]; rfl, hb03⟩
        · have hRe := isEmpty_true hR0
          go_wp2
          go_ret
          exact ⟨by rw [show begunOK s.data.toList = false from (by unfold begunOK; rw [HT.out, HL.out]; simp only [List.headD_cons, List.tail_cons, HK.out, HM.out]; rw [show R.data.toList = [] from (by rw [eq_empty_of_size (show R.size = 0 by omega)])]; simp)]; rfl, hb03⟩
  · have hTi : (!trimB s.data.toList 32 == s.toList) = true := by rw [Lib.toList_data]; simpa using hT
    have HT := hid hT; clear hT
    go_wp2
    go_ret
    exact ⟨by rw [show begunOK s.data.toList = false from (by unfold begunOK; rw [show (trimB s.data.toList 32 == s.data.toList) = false from (by simpa using HT.out)]; simp)]; rfl, hb01⟩
end Go.Proofs.YtiinnnbpbnojgaaGreatDoor

namespace Go.Proofs.YtiinnnbpbnojgaaGreatDoor
open Go Go.RowKit Go.Lib

set_option maxRecDepth 100000 in
set_option maxHeartbeats 400000 in
theorem May_any (s : ByteArray) (flow : Bool) (w : World) (hs : s.size ≤ 1000000) (hT : Tabs w) :
    Calls Tryz.prog 95 #[.string s, .bool flow] w fun e w' => e = .returned (.bool (mayP s.data.toList flow)) ∧ Below w.heap.size w w' := by
  by_cases h0 : 0 < s.size
  · have he := isEmpty_false h0
    have hne : s.data.toList.isEmpty = false := by rw [← Lib.toList_data]; exact he
    have HE := hid hne; clear hne
    go_enter Tryz.func95, Tryz.ntmps95
    go_wp2_with fail
    refine (Right_any s _ hs hT).mono ?_
    rintro e w1 ⟨rfl, hb1⟩
    cases hv : validD s.data.toList with
    | false =>
      have HV := hid hv; clear hv
      go_wp2
      go_ret
      exact ⟨by rw [show mayP s.data.toList flow = false from (by unfold mayP; rw [HV.out]; simp)]; rfl, hb1⟩
    | true =>
      have HV := hid hv; clear hv
      go_wp2_with fail
      refine (isBegun_any s _ hs h0).mono ?_
      rintro e w2 ⟨rfl, hb2⟩
      have hb02 : Below w.heap.size w w2 := hb1.trans (hb2.mono hb1.size)
      cases hb : begunOK s.data.toList with
      | false =>
        have HB := hid hb; clear hb
        go_wp2
        go_ret
        exact ⟨by rw [show mayP s.data.toList flow = false from (by unfold mayP; rw [HV.out, HB.out]; simp)]; rfl, hb02⟩
      | true =>
        have HB := hid hb; clear hb
        go_wp2_with fail
        refine (isLong_any s flow _ hs).mono ?_
        rintro e w3 ⟨rfl, hb3⟩
        go_wp2
        go_ret
        exact ⟨by rw [show mayP s.data.toList flow = longOK s.data.toList flow from (by unfold mayP; rw [HV.out, HB.out, HE.out]; simp)]; rfl, hb02.trans (hb3.mono hb02.size)⟩
  · have he := isEmpty_true h0
    have hne : s.data.toList.isEmpty = true := by rw [← Lib.toList_data]; exact he
    have HE := hid hne; clear hne
    go_enter Tryz.func95, Tryz.ntmps95
    go_wp2
    go_ret
    exact ⟨by rw [show mayP s.data.toList flow = false from (by unfold mayP; rw [HE.out]; simp)]; rfl, Below.refl _ _⟩
end Go.Proofs.YtiinnnbpbnojgaaGreatDoor
