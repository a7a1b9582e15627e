import Derived.Test.YtkdhaipjfkalfaaGreatDoorSl
/- What is proved: slices.AppendSeq, Collect, SortedStableFunc at scalars; package scal's Sort: the list in order. -/
namespace Go.Proofs.YtkdhaipjfkalfaaGreatDoor
open Go Go.RowKit Go.Lib Go.Sort
set_option linter.unusedSimpArgs false
set_option linter.unusedVariables false
attribute [local go_sem] Oper.semAt_some wide_fn wide_depth

def OwnPost (ts : List Sc) (w : World) (e : Ending) (w' : World) : Prop := ∃ v, e = .returned v ∧ OwnS w' w.heap.size v ts ∧ Below w.heap.size w w'

set_option maxRecDepth 100000 in
set_option maxHeartbeats 4000000 in
theorem appendSeq_any (ts : List Sc) (A : Option Addr) (cap Bs : Nat) (w : World) (hB : Boxed w Bs 34 (.slice A ts.length cap)) (hR : RowN w A ts w.heap.size) (hn : ts.length ≤ 1000000) :
    Calls Tryz.prog 86 #[.slice none 0 0, .func (.func 64) #[] #[.pointer (some ⟨Bs, 0, none⟩)]] w (OwnPost ts w) := by
  obtain ⟨N, hN⟩ : ∃ N, w.heap.size = N := ⟨_, rfl⟩
  rw [hN] at hR
  have hBl : Bs < N := by rw [← hN]; exact hB.lt
  have HIT := hid (values_iter ts A cap Bs N hn)
  have HPL := hid hn
  refine (callsIn_wide (n := 0)).1 ?_
  refine callsIn_of_wp_marks Tryz.func86 rfl trivial ?_ rfl
  refine wpIn_wide.2 ?_
  simp only [Tryz.ntmps86, List.size_toArray, List.length_cons, List.length_nil, Nat.reduceAdd, Nat.reduceSub, Array.replicate_succ, Array.replicate_zero, List.push_toArray, List.append_toArray, List.nil_append, List.cons_append]
  have hb0 : Below N w (w.alloc (.cells #[.slice none 0 0] 34)) := (Below.refl N w).alloc (by omega) _
  have b0 : Boxed (w.alloc (.cells #[.slice none 0 0] 34)) N 34 (.slice none 0 0) := by rw [← hN]; exact Boxed.new w _ _
  have hB0 : Boxed (w.alloc (.cells #[.slice none 0 0] 34)) Bs 34 (.slice A ts.length cap) := hB.alloc _
  have hR0 : RowN (w.alloc (.cells #[.slice none 0 0] 34)) A ts N := hR.below ((Below.refl _ w).alloc (Nat.le_refl _) _)
  have hz0 : (w.alloc (.cells #[.slice none 0 0] 34)).heap.size = N + 1 := by simp [hN]
  clear hB hR
  go_wp2
  obtain ⟨w4, hw4⟩ : ∃ w4, w.alloc (.cells #[.slice none 0 0] 34) = w4 := ⟨_, rfl⟩
  rw [hw4] at hb0 b0 hB0 hR0 hz0 ⊢
  refine (wpIn_wide (n := 0)).1 ?_
  refine rangeFunc_law (gf := 64) (lb := #[.pointer (some ⟨Bs, 0, none⟩)]) rfl (enters_of Tryz.func64 (by kernel_rfl) rfl) HIT.out
    (fun Y hY => ⟨boxed_below hB0 hY, hR0.below hY⟩) (fun k hk => hk.elim) (by omega) (fun x => rfl)
    (fun pre W => ∃ v ts', Hid (ts' = pre) ∧ Boxed W N 34 v ∧ OwnS W N v ts' ∧ Below N w W)
    (fun co pre W => False)
    ?hI ?hIx ⟨.slice none 0 0, [], hid rfl, b0, ⟨rfl, .inl ⟨rfl, rfl⟩⟩, hb0⟩ ?round ?done ?stop
  case hI =>
    rintro pre X Y ⟨v, ts', h1, h2, h3, h4⟩ ht
    exact ⟨v, ts', h1, boxed_turn h2 ht (fun f => f), h3.turn ht (fun k hk => hk.elim), ht.below h4 (fun k hk => hk.elim) (by omega) (by omega)⟩
  case hIx =>
    rintro co pre X Y h ht
    exact h
  case stop =>
    rintro D co pre W hD hpre h hK
    exact h.elim
  case round =>
    rintro l pre ⟨k1, n1, s1⟩ W hl ⟨v, ts', h1, h2, h3, h4⟩ hpre
    have HPR := hid hpre
    clear hpre
    unfold encS scV
    gi_wp2
    refine ⟨Keeps.alloc W _, fun Wb ht _ => ?_⟩
    have hta : Turn (fun _ => False) w4.heap.size W Wb := (Turn.alloc W _).trans ht
    have hTB : Wb.heap[W.heap.size]? = some (.cells #[.int .i64 k1, .int .i64 n1, .string s1] 23) := ht.heap (World.alloc_heap_new W _) (fun f => f) rfl
    replace h2 := boxed_turn h2 hta (fun f => f)
    replace h3 := h3.turn hta (fun k hk => hk.elim)
    replace h4 := hta.below h4 (fun k hk => hk.elim) (by omega) (by omega)
    have hWz : W.heap.size ≤ Wb.heap.size := hta.size
    clear ht hta
    obtain ⟨i0, hi, hz1, hz2, hz3⟩ := info_parts info_sc
    have hu : Tryz.prog.underlying 34 = some (.slice 23) := by kernel_rfl
    have HU := hid hu
    clear hu
    obtain ⟨t0, t1, t2, _⟩ := blk3 hTB
    have c1 := h2.cell; have f1 := h2.frozen
    have hTl : W.heap.size < Wb.heap.size := (Array.getElem?_eq_some_iff.1 hTB).1
    have hNl : N < Wb.heap.size := h2.lt
    have htl : ts'.length ≤ 1000000 := by
      have e1 := HPR.out.length_le
      have e2 := HPL.out
      rw [h1.out]
      simp at e1
      omega
    have hown0 : Wb.ownsRow N 23 3 v ts'.length (ts'.flatMap scCells) := h3
    gi_wp2_with (first
      | (gi_at_builtin; refine wpListIn_append_own _ rfl _ _ 34 rfl N 23 i0 (.agg #[.int .i64 0, .int .i64 0, .string ⟨#[]⟩]) 3 32 HU.out hi hz1 hz2 hz3 rfl (by decide) _ _ _ rfl (hown0.alloc _) ⟨Wb.heap.size, 0, none⟩ 1 1 [.int .i64 k1, .int .i64 n1, .string s1] rfl rfl ?c1 ?c2 ?c3 ?c4 ?c5 ?_))
    case c1 =>
      intro j u hj
      match j, hj with
      | 0, hj => simp at hj; subst hj; simp [Addr.add]
      | 1, hj => simp at hj; subst hj; simp [Addr.add]
      | 2, hj => simp at hj; subst hj; simp [Addr.add]
    case c2 => intro u hu; simp at hu; rcases hu with rfl | rfl | rfl <;> rfl
    case c3 => unfold maxLen; omega
    case c4 => omega
    case c5 => simp; omega
    intro v' w5 hown hgrow _
    obtain ⟨q1, q2, q3, q4, q5, q6, q7⟩ := put_sc (C := fun _ => False) (N := N) (M := N) (x := ⟨k1, n1, s1⟩) (Nat.le_refl _) (Nat.le_refl _) (by omega) (fun f => f) h2 h3 (fun j hj => hj.elim) hown hgrow
    have FIN := hid (show Keeps noCells (fun _ => False) N Wb (w5.setCell ⟨N, 0, none⟩ v') ∧ ∃ v ts', Hid (ts' = pre ++ [(⟨k1, n1, s1⟩ : Sc)]) ∧ Boxed (w5.setCell ⟨N, 0, none⟩ v') N 34 v ∧ OwnS (w5.setCell ⟨N, 0, none⟩ v') N v ts' ∧ Below N w (w5.setCell ⟨N, 0, none⟩ v') from
      ⟨q1, v', ts' ++ [⟨k1, n1, s1⟩], hid (by rw [h1.out]), q2, q3, q1.below h4 (Nat.le_refl _) (by omega)⟩)
    obtain ⟨g, cap', rfl⟩ : ∃ g cap', v' = .slice (some ⟨g, 0, none⟩) (ts'.length + 1) cap' := by
      rcases hown.2 with ⟨_, h0⟩ | ⟨g, cap', cur, hv, _⟩
      · omega
      · exact ⟨g, cap', hv⟩
    clear q1 q2 q3 q6 q7 hown hgrow h1 h2 h3 h4 hown0 c1 f1 t0 t1 t2 hTB
    gi_wp2
    exact FIN.out
  case done =>
    rintro D W hD ⟨v, ts', h1, h2, h3, h4⟩ hK
    have c1 := h2.cell; have f1 := h2.frozen
    have hv : ∃ A' n' c', v = .slice A' n' c' := by
      rcases h3.2 with ⟨hv, h0⟩ | ⟨g, cap', cur, hv, _⟩
      · exact ⟨none, 0, 0, hv⟩
      · exact ⟨_, _, _, hv⟩
    obtain ⟨A', n', c', rfl⟩ := hv
    go_wp2
    refine ⟨by simp, .inl ⟨_, _, rfl, run_takeDeferred hK, ?_⟩⟩
    refine ⟨.slice A' n' c', by simp [results, Tryz.f86, go_sem], ?_⟩
    refine ⟨_, rfl, ?_, ?_⟩
    · rw [← h1.out, hN]
      exact OwnS.keep h3 (fun j c hj => (World.putObj_heap_other (fun e => by subst e; rw [hK] at hj; cases hj)).trans hj)
    · rw [hN]; exact below_shut h4 hK (by omega) (by omega) _

set_option maxRecDepth 100000 in
theorem collect_any (ts : List Sc) (A : Option Addr) (cap Bs : Nat) (w : World) (hB : Boxed w Bs 34 (.slice A ts.length cap)) (hR : RowN w A ts w.heap.size) (hn : ts.length ≤ 1000000) :
    Calls Tryz.prog 62 #[.func (.func 64) #[] #[.pointer (some ⟨Bs, 0, none⟩)]] w (OwnPost ts w) := by
  have HC := hid (appendSeq_any ts A cap Bs w hB hR hn)
  clear hB hR
  go_enter Tryz.func62, Tryz.ntmps62
  go_wp2_with fail
  refine Calls.mono HC.out ?_
  rintro e w1 ⟨v, rfl, h1, h2⟩
  have H := hid (And.intro h1 h2)
  clear h1 h2
  go_wp2
  refine bodyPost_ret (v := v) (by simp [results, Tryz.results62, go_sem]) rfl ?_
  exact ⟨v, rfl, H.out.1, H.out.2⟩

/-! From the row of the call's own to the sort's row, and back. -/
theorem arr_get {ts : List Sc} {k : Nat} (h : k < ts.length) : ts.toArray[k]! = ts.getD k sc0 := by
  simp [h, List.getD]
theorem list_get {d : Array Sc} {k : Nat} (h : k < d.size) : d[k]! = d.toList.getD k sc0 := by
  simp [h, List.getD]
theorem holds_own {w : World} {B g cap : Nat} {ts : List Sc} {cur : Array Value} (hg : w.heap[g]? = some (.cells cur 23 (0, 0))) (ht : cur.toList.take (ts.length * 3) = ts.flatMap scCells) : HoldsK scCells 3 w g 0 ts.toArray := by
  intro j hj
  rw [size_flatK] at hj
  have hj' : j < ts.length * 3 := by simpa using hj
  rw [get_flatK _ _ _ _ (by simpa using hj')]
  have hk : j / 3 < ts.length := by omega
  obtain ⟨f0, f1, f2⟩ := flat_atS ts (j / 3) hk
  have hcell : ∀ u, (ts.flatMap scCells)[j]? = some u → w.cell? ⟨g, 0 + j, none⟩ = some u := fun u hu => by
    rw [Nat.zero_add, cell_of_row w g j cur 23 (0, 0) hg]
    rw [← ht, List.getElem?_take, if_pos hj', Array.getElem?_toList] at hu
    exact hu
  refine ⟨?_, by simp [World.frozen?, hg]⟩
  refine hcell _ ?_
  rw [arr_get hk]
  have h3 : j % 3 = 0 ∨ j % 3 = 1 ∨ j % 3 = 2 := by omega
  rcases h3 with h | h | h
  · rw [h]; rw [show j / 3 * 3 = j by omega] at f0; exact f0
  · rw [h]; rw [show j / 3 * 3 + 1 = j by omega] at f1; exact f1
  · rw [h]; rw [show j / 3 * 3 + 2 = j by omega] at f2; exact f2
theorem scIn_holds {w : World} {g cap : Nat} {d : Array Sc} (hb : g < w.heap.size) (h : HoldsK scCells 3 w g 0 d) : ScIn w (.slice (some ⟨g, 0, none⟩) d.size cap) d.toList := by
  refine ⟨some ⟨g, 0, none⟩, cap, by simp, fun k hk => ⟨g, 0, rfl, hb, ?_⟩⟩
  have hk' : k < d.size := by simpa using hk
  rw [← list_get hk']
  exact ⟨(h.cell hk' (show 0 < 3 by omega)).1, (h.cell hk' (show 1 < 3 by omega)).1, (h.cell hk' (show 2 < 3 by omega)).1⟩
theorem swk_below {n g : Nat} {d : Array Sc} {w w1 w2 : World} (h : SWK scCells 3 w1 g 0 d w2) (hb : Below n w w1) (hn : n ≤ g) (hw : n ≤ w.heap.size) : Below n w w2 := by
  obtain ⟨m, os, rfl⟩ := h
  refine ⟨hb.os, hb.tape, hb.output, ?_, fun k hk => ?_⟩
  · unfold sortWorldK putRowK
    rw [size_grow, size_putRow]
    have := hb.size
    show _ ≤ w1.heap.size + _
    omega
  · have hlt : k < w1.heap.size := Nat.lt_of_lt_of_le hk (Nat.le_trans hw hb.size)
    unfold sortWorldK putRowK
    rw [heap_grow_old _ _ (by rw [size_putRow]; exact hlt)]
    refine Eq.trans ?_ (hb.block k hk)
    show (w1.heap.modify g _)[k]? = _
    rw [Array.getElem?_modify, if_neg (by omega)]

def SortPost (ts : List Sc) (w : World) (e : Ending) (w' : World) : Prop := ∃ v, e = .returned v ∧ ScIn w' v (sortL cmpSc ts) ∧ Below w.heap.size w w'
theorem sortL_nil : sortL cmpSc [] = [] := List.eq_nil_of_length_eq_zero (by rw [length_sortL]; rfl)

set_option maxRecDepth 100000 in
set_option maxHeartbeats 1000000 in
theorem sortedStable_any (ts : List Sc) (A : Option Addr) (cap Bs : Nat) (w : World) (hB : Boxed w Bs 34 (.slice A ts.length cap)) (hR : RowN w A ts w.heap.size) (hn : ts.length ≤ 1000000) :
    Calls Tryz.prog 41 #[.func (.func 64) #[] #[.pointer (some ⟨Bs, 0, none⟩)], .func (.func 18) #[] #[]] w (SortPost ts w) := by
  have HC := hid (collect_any ts A cap Bs w hB hR hn)
  clear hB hR
  go_enter Tryz.func41, Tryz.ntmps41
  go_wp2_with fail
  refine Calls.mono HC.out ?_
  clear HC
  rintro e w1 ⟨v, rfl, h1, h2⟩
  rcases h1.2 with ⟨hv, h0⟩ | ⟨g, c, cur, hv, hgN, hg, hnc, hcm, hsz, htake⟩
  · have : ts = [] := List.eq_nil_of_length_eq_zero h0
    subst this
    subst hv
    clear h1
    go_wp2_with fail
    refine (sortStable_none _ _).mono ?_
    rintro e w2 ⟨rfl, hw⟩
    subst w2
    go_wp2
    refine bodyPost_ret (v := .slice none 0 0) (by simp [results, Tryz.results41, go_sem]) rfl ?_
    exact ⟨_, rfl, by rw [sortL_nil]; exact ScIn.nil _, h2⟩
  · subst hv
    have hH := holds_own (B := 0) (cap := 0) hg (by simpa using htake)
    have hgl : g < w1.heap.size := (Array.getElem?_eq_some_iff.1 hg).1
    have hST := sortStable_row g 0 c ts.toArray w1 hH hgl (by simp; omega)
    rw [List.size_toArray] at hST
    have HST := hid hST
    have HK := hid (And.intro hH (And.intro hgN (And.intro hgl h2)))
    obtain ⟨n, hnn⟩ : ∃ n, ts.length = n := ⟨_, rfl⟩
    rw [hnn] at HST ⊢
    have HN := hid hnn
    clear hH hgN hgl h2 hST h1 hg hnc hcm hsz htake hnn
    go_wp2_with fail
    refine Calls.mono HST.out ?_
    rintro e w2 ⟨rfl, d', hd1, hd2⟩
    have hs : d'.size = ts.toArray.size := by
      have := congrArg List.length hd1
      rw [length_sortL] at this
      simpa using this
    have hh := hd2.holds HK.out.2.2.1 HK.out.1 hs
    have hlt := hd2.lt HK.out.2.2.1
    have hin := scIn_holds (cap := c) hlt hh
    rw [hd1] at hin
    have hin' : ScIn w2 (.slice (some ⟨g, 0, none⟩) n c) (sortL cmpSc ts) := by
      rw [← HN.out, ← show d'.size = ts.length by rw [hs]; simp]
      simpa using hin
    have hbl := swk_below hd2 HK.out.2.2.2 HK.out.2.1 (Nat.le_refl _)
    have HF := hid (And.intro hin' hbl)
    clear hin hin' hh hlt hbl hs hd1 hd2
    go_wp2
    refine bodyPost_ret (v := .slice (some ⟨g, 0, none⟩) n c) (by simp [results, Tryz.results41, go_sem]) rfl ?_
    exact ⟨_, rfl, HF.out.1, HF.out.2⟩

set_option maxRecDepth 100000 in
theorem sort_any (v : Value) (ts : List Sc) (w : World) (hv : ScIn w v ts) (hn : ts.length ≤ 1000000) :
    Calls Tryz.prog 22 #[v] w (SortPost ts w) := by
  obtain ⟨A, cap, rfl, hR⟩ := RowN.of hv
  have hb0 : Below w.heap.size w (w.alloc (.cells #[.slice A ts.length cap] 34)) := (Below.refl _ w).alloc (Nat.le_refl _) _
  have hR1 : RowN (w.alloc (.cells #[.slice A ts.length cap] 34)) A ts (w.alloc (.cells #[.slice A ts.length cap] 34)).heap.size := fun k hk => by
    obtain ⟨b, o, ha, hb, c0, c1, c2⟩ := hR.below hb0 k hk
    exact ⟨b, o, ha, by simp; omega, c0, c1, c2⟩
  have HS := hid (sortedStable_any ts A cap w.heap.size _ (Boxed.new w 34 (.slice A ts.length cap)) hR1 hn)
  clear hR hR1
  go_enter Tryz.func22, Tryz.ntmps22
  go_wp2_with fail
  refine (values_any _ _ _ _).mono ?_
  rintro e w1 ⟨rfl, hw⟩
  subst w1
  go_wp2_with fail
  refine Calls.mono HS.out ?_
  rintro e w2 ⟨v, rfl, h1, h2⟩
  have HF := hid (And.intro h1 h2)
  clear h1 h2
  go_wp2
  refine bodyPost_ret (v := v) (by simp [results, Tryz.results22, go_sem]) rfl ?_
  exact ⟨v, rfl, HF.out.1, hb0.trans (HF.out.2.mono (by simp))⟩
end Go.Proofs.YtkdhaipjfkalfaaGreatDoor
