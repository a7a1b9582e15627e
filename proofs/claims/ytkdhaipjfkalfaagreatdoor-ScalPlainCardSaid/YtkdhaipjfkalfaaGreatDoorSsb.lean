import Derived.Test.YtkdhaipjfkalfaaGreatDoorSs
import Derived.Test.YtkdhaipjfkalfaaGreatDoorSrb
import Derived.Test.YtkdhaipjfkalfaaGreatDoorGv
/- What is proved: the reference for layer 6: Read, at every text of a bounded length. -/
namespace Go.Proofs.YtkdhaipjfkalfaaGreatDoor
open Go Go.RowKit Go.Lib
set_option linter.unusedSimpArgs false
set_option linter.unusedVariables false

theorem refRead04_utf (s : ByteArray) (a : Nat) (w : World) (hs : s.size ≤ 100000) (hv : validD s.data.toList = false) :
    Calls Tryz.prog 37 #[.string s, .int .i64 a] w fun e w' => e = .returned (resQ (readQ s a)) ∧ Below w.heap.size w w' := by
  have hR := refRight04_any s w (by omega)
  rw [hv] at hR
  have HQ := hid (show readQ s a = ([], 0, 40) by unfold readQ; rw [hv]; rfl)
  clear hv
  go_enter Tryz.func37, Tryz.ntmps37
  go_wp2_with fail
  refine hR.mono ?_
  rintro e w1 ⟨rfl, hb1⟩
  go_wp2
  refine bodyPost_ret (v := .tuple #[.string ⟨#[]⟩, .int .i64 0, .int .i64 40]) (by simp [results, Tryz.results37, go_sem]) rfl ?_
  exact ⟨by rw [HQ.out]; rfl, hb1⟩
theorem refRead04_34 (s : ByteArray) (w : World) (hs : s.size ≤ 100000) (h34 : s.data.toList.headD 0 = 34) :
    Calls Tryz.prog 37 #[.string s, .int .i64 0] w fun e w' => e = .returned (resQ (readQ s 0)) ∧ Below w.heap.size w w' := by
  cases hv : validD s.data.toList with
  | false => exact refRead04_utf s 0 w hs hv
  | true =>
    refine refRead04_any s 0 34 w hs ?_ hv
    cases hl : s.data.toList with
    | nil => rw [hl] at h34; simp at h34
    | cons c r =>
      rw [hl] at h34
      exact ⟨by simp, .inl ⟨h34, rfl⟩⟩

theorem readS_of {s : ByteArray} {x : Sc} {e : Int} (h : saidP s = if e = 0 then some x else none) : readS s = if e = 0 ∧ (textP x).2 = 0 ∧ (textP x).1 = s then (x, 0) else (sc0, 60) := by
  by_cases he : e = 0
  · rw [if_pos he] at h
    rw [readS_some h]
    by_cases h2 : (textP x).2 = 0 ∧ (textP x).1 = s
    · rw [if_pos h2, if_pos ⟨he, h2⟩]
    · rw [if_neg h2, if_neg (fun k => h2 k.2)]
  · rw [if_neg he] at h
    rw [readS_none h, if_neg (fun k => he k.1)]
theorem said_34 {s : ByteArray} (h : s.data.toList.headD 0 = 34) : saidP s = if (readQ s 0).2.2 = 0 then some ⟨3, 0, ⟨(readQ s 0).1.toArray⟩⟩ else none := by unfold saidP; rw [if_pos h]
theorem said_else {s : ByteArray} (h : ¬ s.data.toList.headD 0 = 34) : saidP s = if (resolveP s).2 = 0 then some (resolveP s).1 else none := by unfold saidP; rw [if_neg h]
/-- The ways in which a text that is read roughly is held against its text. -/
theorem read_ways {s : ByteArray} {x : Sc} {e : Int} (h : saidP s = if e = 0 then some x else none) :
    (e = 0 ∧ (textP x).2 = 0 ∧ (textP x).1 = s ∧ readS s = (x, 0)) ∨ (((e : Int) != 0) = true ∧ readS s = (sc0, 60)) ∨ (e = 0 ∧ (textP x).2 = 60 ∧ readS s = (sc0, 60)) ∨ (e = 0 ∧ (textP x).2 = 0 ∧ ((textP x).1.toList == s.toList) = false ∧ readS s = (sc0, 60)) := by
  have hr := readS_of h
  by_cases he : e = 0
  · rcases text_cases x with h2 | h2
    · by_cases ht : (textP x).1 = s
      · exact .inl ⟨he, h2, ht, by rw [hr, if_pos ⟨he, h2, ht⟩]⟩
      · refine .inr (.inr (.inr ⟨he, h2, ?_, by rw [hr, if_neg (fun k => ht k.2.2)]⟩))
        rw [beq_eq_false_iff_ne, Lib.toList_data, Lib.toList_data]
        exact fun h3 => ht (bytes_ext h3)
    · exact .inr (.inr (.inl ⟨he, h2, by rw [hr, if_neg (fun k => by have := k.2.1; omega)]⟩))
  · exact .inr (.inl ⟨by rw [bne_iff_ne]; exact he, by rw [hr, if_neg (fun k => he k.1)]⟩)
theorem set_blk3 {w : World} {X : Nat} {T : TypeId} {a b c : Value} (h : w.heap[X]? = some (.cells #[a, b, c] T)) (v0 v1 v2 : Value) :
    (((w.setCell ⟨X, 0, none⟩ v0).setCell ⟨X, 1, none⟩ v1).setCell ⟨X, 2, none⟩ v2).heap[X]? = some (.cells #[v0, v1, v2] T) := by
  simp [World.setCell, Array.getElem?_modify, h]

set_option maxRecDepth 100000 in
set_option maxHeartbeats 4000000 in
theorem refRead06_any (s : ByteArray) (w : World) (hs : s.size ≤ 10000) :
    Calls Tryz.prog 17 #[.string s] w fun e w' => e = .returned (readSV s) ∧ Below w.heap.size w w' := by
  unfold readSV
  obtain ⟨N, hN⟩ : ∃ N, w.heap.size = N := ⟨_, rfl⟩
  have hb0 : Below N w (w.alloc (.cells #[.int .i64 0, .int .i64 0, .string ⟨#[]⟩] 23)) := (Below.refl N w).alloc (by omega) _
  have hRs := refResolve_any s (w.alloc (.cells #[.int .i64 0, .int .i64 0, .string ⟨#[]⟩] 23)) (by omega)
  rw [resolve_eq] at hRs
  rw [hN]
  by_cases h34 : s.data.toList.headD 0 = 34
  · have h0 : 0 < s.size := by
      rw [Lib.size_eq]
      cases hl : s.data.toList with
      | nil => rw [hl] at h34; simp at h34
      | cons _ _ => simp
    have hne := isEmpty_false h0
    have h0i : (0 : Int) < (s.size : Int) := by omega
    have hc0 : s[0]'h0 = 34 := by rw [head_rest s h0] at h34; exact h34
    have hw := read_ways (said_34 h34)
    have hq := fun wx => refRead04_34 s wx (by omega) h34
    have hsz := readQ_size s
    unfold resQ at hq
    obtain ⟨⟨t, q, e1⟩, hr⟩ : ∃ r, readQ s 0 = r := ⟨_, rfl⟩
    rw [hr] at hq hw hsz
    have hT0 := fun wx => refText_any ⟨3, 0, ⟨t.toArray⟩⟩ wx (by show (⟨t.toArray⟩ : ByteArray).size ≤ _; rw [Lib.size_eq, toList_mk]; simp only at hsz; omega)
    unfold textV scV at hT0
    obtain ⟨⟨T, er⟩, ht⟩ : ∃ r, textP ⟨3, 0, ⟨t.toArray⟩⟩ = r := ⟨_, rfl⟩
    simp only at hw hq
    rw [ht] at hT0 hw
    simp only at hw
    obtain ⟨⟨⟨k, n, t0⟩, e0⟩, hr0⟩ : ∃ r, resolveP s = r := ⟨_, rfl⟩
    rw [hr0] at hRs
    unfold scV at hRs
    have HRs := hid hRs
    have HQ := hid hq
    have HT0 := hid hT0
    clear hRs hq hT0 hsz hr ht hr0 h34
    rcases hw with ⟨rfl, rfl, rfl, hres⟩ | ⟨hcmp, hres⟩ | ⟨rfl, rfl, hres⟩ | ⟨rfl, rfl, hcmp, hres⟩
    · rw [hres]
      clear hres
      go_enter Tryz.func17, Tryz.ntmps17
      go_wp2_with fail
      refine Calls.mono HRs.out ?_
      rintro e w1 ⟨rfl, hb1⟩
      have hc := heap_new _ _ hb1
      rw [hN] at hc
      have hb2 : Below N w w1 := hb0.trans (hb1.mono (by simp; omega))
      have hz1 : N < w1.heap.size := by have := hb1.size; simp at this; omega
      clear hb1
      go_wp2_with fail
      refine (HQ.out _).mono ?_
      rintro e w3 ⟨rfl, hb3⟩
      have hN3 : w3.heap[N]? = some (.cells #[.int .i64 0, .int .i64 0, .string ⟨#[]⟩] 23) := (hb3.block N (by simp; omega)).trans ((Below.heap_alloc _ _ _ hz1).trans hc)
      have hX3 := heap_new _ _ hb3
      have hb4 : Below N w w3 := (hb2.alloc (by omega) _).trans (hb3.mono (by simp; omega))
      obtain ⟨d0, d1, d2, g0, g1, g2⟩ := blk3 hX3
      have hX4 := set_blk3 hX3 (.int .i64 3) (.int .i64 0) (.string ⟨t.toArray⟩)
      have hne3 : N ≠ w1.heap.size := by omega
      have hN4 := (Below.heap_setCell _ ⟨w1.heap.size, 2, none⟩ (.string ⟨t.toArray⟩) N hne3).trans ((Below.heap_setCell _ ⟨w1.heap.size, 1, none⟩ (.int .i64 0) N hne3).trans ((Below.heap_setCell w3 ⟨w1.heap.size, 0, none⟩ (.int .i64 3) N hne3).trans hN3))
      have hb5 := ((hb4.setCell (p := ⟨w1.heap.size, 0, none⟩) (by simp; omega) (.int .i64 3)).setCell (p := ⟨w1.heap.size, 1, none⟩) (by simp; omega) (.int .i64 0)).setCell (p := ⟨w1.heap.size, 2, none⟩) (by simp; omega) (.string ⟨t.toArray⟩)
      have H4 := hid (And.intro hX4 (And.intro hN4 hb5))
      clear hb3 hN3 hX3 hb4 hX4 hN4 hb5 hc hb2
      go_wp2_with fail
      refine (HT0.out _).mono ?_
      rintro e w5 ⟨rfl, hb5⟩
      have hb6 : Below N w w5 := H4.out.2.2.trans (hb5.mono (by have := H4.out.2.2.size; omega))
      obtain ⟨c0, c1, c2, f0, f1, f2⟩ := blk3 (heap_below H4.out.2.1 hb5)
      obtain ⟨x0, x1, x2, y0, y1, y2⟩ := blk3 (heap_below H4.out.1 hb5)
      clear hb5 d0 d1 d2 g0 g1 g2
      go_wp2
      refine bodyPost_ret (v := .tuple #[.agg #[.int .i64 3, .int .i64 0, .string ⟨t.toArray⟩], .int .i64 0]) (by simp [results, Tryz.results17, go_sem, c0, c1, c2]) rfl ?_
      exact ⟨rfl, by repeat (first | exact hb6 | refine Below.setCell ?_ (by simp) _)⟩
    · rw [hres]
      clear hres
      go_enter Tryz.func17, Tryz.ntmps17
      go_wp2_with fail
      refine Calls.mono HRs.out ?_
      rintro e w1 ⟨rfl, hb1⟩
      have hc := heap_new _ _ hb1
      rw [hN] at hc
      have hb2 : Below N w w1 := hb0.trans (hb1.mono (by simp; omega))
      have hz1 : N < w1.heap.size := by have := hb1.size; simp at this; omega
      clear hb1
      go_wp2_with fail
      refine (HQ.out _).mono ?_
      rintro e w3 ⟨rfl, hb3⟩
      have hN3 : w3.heap[N]? = some (.cells #[.int .i64 0, .int .i64 0, .string ⟨#[]⟩] 23) := (hb3.block N (by simp; omega)).trans ((Below.heap_alloc _ _ _ hz1).trans hc)
      have hX3 := heap_new _ _ hb3
      have hb4 : Below N w w3 := (hb2.alloc (by omega) _).trans (hb3.mono (by simp; omega))
      obtain ⟨d0, d1, d2, g0, g1, g2⟩ := blk3 hX3
      have hX4 := set_blk3 hX3 (.int .i64 3) (.int .i64 0) (.string ⟨t.toArray⟩)
      have hne3 : N ≠ w1.heap.size := by omega
      have hN4 := (Below.heap_setCell _ ⟨w1.heap.size, 2, none⟩ (.string ⟨t.toArray⟩) N hne3).trans ((Below.heap_setCell _ ⟨w1.heap.size, 1, none⟩ (.int .i64 0) N hne3).trans ((Below.heap_setCell w3 ⟨w1.heap.size, 0, none⟩ (.int .i64 3) N hne3).trans hN3))
      have hb5 := ((hb4.setCell (p := ⟨w1.heap.size, 0, none⟩) (by simp; omega) (.int .i64 3)).setCell (p := ⟨w1.heap.size, 1, none⟩) (by simp; omega) (.int .i64 0)).setCell (p := ⟨w1.heap.size, 2, none⟩) (by simp; omega) (.string ⟨t.toArray⟩)
      have H4 := hid (And.intro hX4 (And.intro hN4 hb5))
      clear hb3 hN3 hX3 hb4 hX4 hN4 hb5 hc hb2
      go_wp2_with fail
      refine (HT0.out _).mono ?_
      rintro e w5 ⟨rfl, hb5⟩
      have hb6 : Below N w w5 := H4.out.2.2.trans (hb5.mono (by have := H4.out.2.2.size; omega))
      obtain ⟨c0, c1, c2, f0, f1, f2⟩ := blk3 (heap_below H4.out.2.1 hb5)
      obtain ⟨x0, x1, x2, y0, y1, y2⟩ := blk3 (heap_below H4.out.1 hb5)
      clear hb5 d0 d1 d2 g0 g1 g2
      go_wp2
      refine bodyPost_ret (v := .tuple #[.agg #[.int .i64 0, .int .i64 0, .string ⟨#[]⟩], .int .i64 60]) (by simp [results, Tryz.results17, go_sem, c0, c1, c2]) rfl ?_
      exact ⟨rfl, by repeat (first | exact hb6 | refine Below.setCell ?_ (by simp) _)⟩
    · rw [hres]
      clear hres
      go_enter Tryz.func17, Tryz.ntmps17
      go_wp2_with fail
      refine Calls.mono HRs.out ?_
      rintro e w1 ⟨rfl, hb1⟩
      have hc := heap_new _ _ hb1
      rw [hN] at hc
      have hb2 : Below N w w1 := hb0.trans (hb1.mono (by simp; omega))
      have hz1 : N < w1.heap.size := by have := hb1.size; simp at this; omega
      clear hb1
      go_wp2_with fail
      refine (HQ.out _).mono ?_
      rintro e w3 ⟨rfl, hb3⟩
      have hN3 : w3.heap[N]? = some (.cells #[.int .i64 0, .int .i64 0, .string ⟨#[]⟩] 23) := (hb3.block N (by simp; omega)).trans ((Below.heap_alloc _ _ _ hz1).trans hc)
      have hX3 := heap_new _ _ hb3
      have hb4 : Below N w w3 := (hb2.alloc (by omega) _).trans (hb3.mono (by simp; omega))
      obtain ⟨d0, d1, d2, g0, g1, g2⟩ := blk3 hX3
      have hX4 := set_blk3 hX3 (.int .i64 3) (.int .i64 0) (.string ⟨t.toArray⟩)
      have hne3 : N ≠ w1.heap.size := by omega
      have hN4 := (Below.heap_setCell _ ⟨w1.heap.size, 2, none⟩ (.string ⟨t.toArray⟩) N hne3).trans ((Below.heap_setCell _ ⟨w1.heap.size, 1, none⟩ (.int .i64 0) N hne3).trans ((Below.heap_setCell w3 ⟨w1.heap.size, 0, none⟩ (.int .i64 3) N hne3).trans hN3))
      have hb5 := ((hb4.setCell (p := ⟨w1.heap.size, 0, none⟩) (by simp; omega) (.int .i64 3)).setCell (p := ⟨w1.heap.size, 1, none⟩) (by simp; omega) (.int .i64 0)).setCell (p := ⟨w1.heap.size, 2, none⟩) (by simp; omega) (.string ⟨t.toArray⟩)
      have H4 := hid (And.intro hX4 (And.intro hN4 hb5))
      clear hb3 hN3 hX3 hb4 hX4 hN4 hb5 hc hb2
      go_wp2_with fail
      refine (HT0.out _).mono ?_
      rintro e w5 ⟨rfl, hb5⟩
      have hb6 : Below N w w5 := H4.out.2.2.trans (hb5.mono (by have := H4.out.2.2.size; omega))
      obtain ⟨c0, c1, c2, f0, f1, f2⟩ := blk3 (heap_below H4.out.2.1 hb5)
      obtain ⟨x0, x1, x2, y0, y1, y2⟩ := blk3 (heap_below H4.out.1 hb5)
      clear hb5 d0 d1 d2 g0 g1 g2
      go_wp2
      refine bodyPost_ret (v := .tuple #[.agg #[.int .i64 0, .int .i64 0, .string ⟨#[]⟩], .int .i64 60]) (by simp [results, Tryz.results17, go_sem, c0, c1, c2]) rfl ?_
      exact ⟨rfl, by repeat (first | exact hb6 | refine Below.setCell ?_ (by simp) _)⟩
    · rw [hres]
      clear hres
      go_enter Tryz.func17, Tryz.ntmps17
      go_wp2_with fail
      refine Calls.mono HRs.out ?_
      rintro e w1 ⟨rfl, hb1⟩
      have hc := heap_new _ _ hb1
      rw [hN] at hc
      have hb2 : Below N w w1 := hb0.trans (hb1.mono (by simp; omega))
      have hz1 : N < w1.heap.size := by have := hb1.size; simp at this; omega
      clear hb1
      go_wp2_with fail
      refine (HQ.out _).mono ?_
      rintro e w3 ⟨rfl, hb3⟩
      have hN3 : w3.heap[N]? = some (.cells #[.int .i64 0, .int .i64 0, .string ⟨#[]⟩] 23) := (hb3.block N (by simp; omega)).trans ((Below.heap_alloc _ _ _ hz1).trans hc)
      have hX3 := heap_new _ _ hb3
      have hb4 : Below N w w3 := (hb2.alloc (by omega) _).trans (hb3.mono (by simp; omega))
      obtain ⟨d0, d1, d2, g0, g1, g2⟩ := blk3 hX3
      have hX4 := set_blk3 hX3 (.int .i64 3) (.int .i64 0) (.string ⟨t.toArray⟩)
      have hne3 : N ≠ w1.heap.size := by omega
      have hN4 := (Below.heap_setCell _ ⟨w1.heap.size, 2, none⟩ (.string ⟨t.toArray⟩) N hne3).trans ((Below.heap_setCell _ ⟨w1.heap.size, 1, none⟩ (.int .i64 0) N hne3).trans ((Below.heap_setCell w3 ⟨w1.heap.size, 0, none⟩ (.int .i64 3) N hne3).trans hN3))
      have hb5 := ((hb4.setCell (p := ⟨w1.heap.size, 0, none⟩) (by simp; omega) (.int .i64 3)).setCell (p := ⟨w1.heap.size, 1, none⟩) (by simp; omega) (.int .i64 0)).setCell (p := ⟨w1.heap.size, 2, none⟩) (by simp; omega) (.string ⟨t.toArray⟩)
      have H4 := hid (And.intro hX4 (And.intro hN4 hb5))
      clear hb3 hN3 hX3 hb4 hX4 hN4 hb5 hc hb2
      go_wp2_with fail
      refine (HT0.out _).mono ?_
      rintro e w5 ⟨rfl, hb5⟩
      have hb6 : Below N w w5 := H4.out.2.2.trans (hb5.mono (by have := H4.out.2.2.size; omega))
      obtain ⟨c0, c1, c2, f0, f1, f2⟩ := blk3 (heap_below H4.out.2.1 hb5)
      obtain ⟨x0, x1, x2, y0, y1, y2⟩ := blk3 (heap_below H4.out.1 hb5)
      clear hb5 d0 d1 d2 g0 g1 g2
      go_wp2
      refine bodyPost_ret (v := .tuple #[.agg #[.int .i64 0, .int .i64 0, .string ⟨#[]⟩], .int .i64 60]) (by simp [results, Tryz.results17, go_sem, c0, c1, c2]) rfl ?_
      exact ⟨rfl, by repeat (first | exact hb6 | refine Below.setCell ?_ (by simp) _)⟩
  · have hw := read_ways (said_else h34)
    have hsz := resolveP_size s
    obtain ⟨⟨⟨k, n, t⟩, e1⟩, hr⟩ : ∃ r, resolveP s = r := ⟨_, rfl⟩
    rw [hr] at hRs hw hsz
    have hT0 := fun wx => refText_any ⟨k, n, t⟩ wx (by show t.size ≤ _; simp only at hsz; omega)
    unfold textV scV at hT0
    unfold scV at hRs
    obtain ⟨⟨T, er⟩, ht⟩ : ∃ r, textP ⟨k, n, t⟩ = r := ⟨_, rfl⟩
    simp only at hw
    rw [ht] at hT0 hw
    simp only at hw
    have HRs := hid hRs
    have HT0 := hid hT0
    have hq : (s.toList.isEmpty = true) ∨ (∃ h0 : 0 < s.size, ((((s[0]'h0).toNat : Nat) : Int) == 34) = false) := by
      by_cases h0 : 0 < s.size
      · refine .inr ⟨h0, ?_⟩
        rw [beq_eq_false_iff_ne]
        intro h
        rw [head_rest s h0] at h34
        exact h34 (UInt8.toNat_inj.1 (by show (s[0]'h0).toNat = 34; omega))
      · exact .inl (isEmpty_true h0)
    clear hRs hT0 hsz hr ht h34
    rcases hq with hemp | ⟨h0, hc0⟩
    · rcases hw with ⟨rfl, rfl, rfl, hres⟩ | ⟨hcmp, hres⟩ | ⟨rfl, rfl, hres⟩ | ⟨rfl, rfl, hcmp, hres⟩
      · rw [hres]
        clear hres
        go_enter Tryz.func17, Tryz.ntmps17
        go_wp2_with fail
        refine Calls.mono HRs.out ?_
        rintro e w1 ⟨rfl, hb1⟩
        have hc := heap_new _ _ hb1
        rw [hN] at hc
        have hb2 : Below N w w1 := hb0.trans (hb1.mono (by simp; omega))
        have hz1 : N < w1.heap.size := by have := hb1.size; simp at this; omega
        clear hb1
        go_wp2_with fail
        refine (HT0.out _).mono ?_
        rintro e w5 ⟨rfl, hb5⟩
        have hN5 : w5.heap[N]? = some (.cells #[.int .i64 0, .int .i64 0, .string ⟨#[]⟩] 23) := (hb5.block N (by simp; omega)).trans ((Below.heap_alloc _ _ _ hz1).trans hc)
        have hX5 := heap_new _ _ hb5
        have hb6 : Below N w w5 := (hb2.alloc (by omega) _).trans (hb5.mono (by simp; omega))
        obtain ⟨c0, c1, c2, f0, f1, f2⟩ := blk3 hN5
        obtain ⟨x0, x1, x2, y0, y1, y2⟩ := blk3 hX5
        clear hb5 hN5 hX5 hc hb2
        go_wp2
        refine bodyPost_ret (v := .tuple #[.agg #[.int .i64 k, .int .i64 n, .string t], .int .i64 0]) (by simp [results, Tryz.results17, go_sem, c0, c1, c2]) rfl ?_
        exact ⟨rfl, by repeat (first | exact hb6 | refine Below.setCell ?_ (by simp) _)⟩
      · rw [hres]
        clear hres
        go_enter Tryz.func17, Tryz.ntmps17
        go_wp2_with fail
        refine Calls.mono HRs.out ?_
        rintro e w1 ⟨rfl, hb1⟩
        have hc := heap_new _ _ hb1
        rw [hN] at hc
        have hb2 : Below N w w1 := hb0.trans (hb1.mono (by simp; omega))
        have hz1 : N < w1.heap.size := by have := hb1.size; simp at this; omega
        clear hb1
        go_wp2_with fail
        refine (HT0.out _).mono ?_
        rintro e w5 ⟨rfl, hb5⟩
        have hN5 : w5.heap[N]? = some (.cells #[.int .i64 0, .int .i64 0, .string ⟨#[]⟩] 23) := (hb5.block N (by simp; omega)).trans ((Below.heap_alloc _ _ _ hz1).trans hc)
        have hX5 := heap_new _ _ hb5
        have hb6 : Below N w w5 := (hb2.alloc (by omega) _).trans (hb5.mono (by simp; omega))
        obtain ⟨c0, c1, c2, f0, f1, f2⟩ := blk3 hN5
        obtain ⟨x0, x1, x2, y0, y1, y2⟩ := blk3 hX5
        clear hb5 hN5 hX5 hc hb2
        go_wp2
        refine bodyPost_ret (v := .tuple #[.agg #[.int .i64 0, .int .i64 0, .string ⟨#[]⟩], .int .i64 60]) (by simp [results, Tryz.results17, go_sem, c0, c1, c2]) rfl ?_
        exact ⟨rfl, by repeat (first | exact hb6 | refine Below.setCell ?_ (by simp) _)⟩
      · rw [hres]
        clear hres
        go_enter Tryz.func17, Tryz.ntmps17
        go_wp2_with fail
        refine Calls.mono HRs.out ?_
        rintro e w1 ⟨rfl, hb1⟩
        have hc := heap_new _ _ hb1
        rw [hN] at hc
        have hb2 : Below N w w1 := hb0.trans (hb1.mono (by simp; omega))
        have hz1 : N < w1.heap.size := by have := hb1.size; simp at this; omega
        clear hb1
        go_wp2_with fail
        refine (HT0.out _).mono ?_
        rintro e w5 ⟨rfl, hb5⟩
        have hN5 : w5.heap[N]? = some (.cells #[.int .i64 0, .int .i64 0, .string ⟨#[]⟩] 23) := (hb5.block N (by simp; omega)).trans ((Below.heap_alloc _ _ _ hz1).trans hc)
        have hX5 := heap_new _ _ hb5
        have hb6 : Below N w w5 := (hb2.alloc (by omega) _).trans (hb5.mono (by simp; omega))
        obtain ⟨c0, c1, c2, f0, f1, f2⟩ := blk3 hN5
        obtain ⟨x0, x1, x2, y0, y1, y2⟩ := blk3 hX5
        clear hb5 hN5 hX5 hc hb2
        go_wp2
        refine bodyPost_ret (v := .tuple #[.agg #[.int .i64 0, .int .i64 0, .string ⟨#[]⟩], .int .i64 60]) (by simp [results, Tryz.results17, go_sem, c0, c1, c2]) rfl ?_
        exact ⟨rfl, by repeat (first | exact hb6 | refine Below.setCell ?_ (by simp) _)⟩
      · rw [hres]
        clear hres
        go_enter Tryz.func17, Tryz.ntmps17
        go_wp2_with fail
        refine Calls.mono HRs.out ?_
        rintro e w1 ⟨rfl, hb1⟩
        have hc := heap_new _ _ hb1
        rw [hN] at hc
        have hb2 : Below N w w1 := hb0.trans (hb1.mono (by simp; omega))
        have hz1 : N < w1.heap.size := by have := hb1.size; simp at this; omega
        clear hb1
        go_wp2_with fail
        refine (HT0.out _).mono ?_
        rintro e w5 ⟨rfl, hb5⟩
        have hN5 : w5.heap[N]? = some (.cells #[.int .i64 0, .int .i64 0, .string ⟨#[]⟩] 23) := (hb5.block N (by simp; omega)).trans ((Below.heap_alloc _ _ _ hz1).trans hc)
        have hX5 := heap_new _ _ hb5
        have hb6 : Below N w w5 := (hb2.alloc (by omega) _).trans (hb5.mono (by simp; omega))
        obtain ⟨c0, c1, c2, f0, f1, f2⟩ := blk3 hN5
        obtain ⟨x0, x1, x2, y0, y1, y2⟩ := blk3 hX5
        clear hb5 hN5 hX5 hc hb2
        go_wp2
        refine bodyPost_ret (v := .tuple #[.agg #[.int .i64 0, .int .i64 0, .string ⟨#[]⟩], .int .i64 60]) (by simp [results, Tryz.results17, go_sem, c0, c1, c2]) rfl ?_
        exact ⟨rfl, by repeat (first | exact hb6 | refine Below.setCell ?_ (by simp) _)⟩
    · have hne := isEmpty_false h0
      have h0i : (0 : Int) < (s.size : Int) := by omega
      rcases hw with ⟨rfl, rfl, rfl, hres⟩ | ⟨hcmp, hres⟩ | ⟨rfl, rfl, hres⟩ | ⟨rfl, rfl, hcmp, hres⟩
      · rw [hres]
        clear hres
        go_enter Tryz.func17, Tryz.ntmps17
        go_wp2_with fail
        refine Calls.mono HRs.out ?_
        rintro e w1 ⟨rfl, hb1⟩
        have hc := heap_new _ _ hb1
        rw [hN] at hc
        have hb2 : Below N w w1 := hb0.trans (hb1.mono (by simp; omega))
        have hz1 : N < w1.heap.size := by have := hb1.size; simp at this; omega
        clear hb1
        go_wp2_with fail
        refine (HT0.out _).mono ?_
        rintro e w5 ⟨rfl, hb5⟩
        have hN5 : w5.heap[N]? = some (.cells #[.int .i64 0, .int .i64 0, .string ⟨#[]⟩] 23) := (hb5.block N (by simp; omega)).trans ((Below.heap_alloc _ _ _ hz1).trans hc)
        have hX5 := heap_new _ _ hb5
        have hb6 : Below N w w5 := (hb2.alloc (by omega) _).trans (hb5.mono (by simp; omega))
        obtain ⟨c0, c1, c2, f0, f1, f2⟩ := blk3 hN5
        obtain ⟨x0, x1, x2, y0, y1, y2⟩ := blk3 hX5
        clear hb5 hN5 hX5 hc hb2
        go_wp2
        refine bodyPost_ret (v := .tuple #[.agg #[.int .i64 k, .int .i64 n, .string t], .int .i64 0]) (by simp [results, Tryz.results17, go_sem, c0, c1, c2]) rfl ?_
        exact ⟨rfl, by repeat (first | exact hb6 | refine Below.setCell ?_ (by simp) _)⟩
      · rw [hres]
        clear hres
        go_enter Tryz.func17, Tryz.ntmps17
        go_wp2_with fail
        refine Calls.mono HRs.out ?_
        rintro e w1 ⟨rfl, hb1⟩
        have hc := heap_new _ _ hb1
        rw [hN] at hc
        have hb2 : Below N w w1 := hb0.trans (hb1.mono (by simp; omega))
        have hz1 : N < w1.heap.size := by have := hb1.size; simp at this; omega
        clear hb1
        go_wp2_with fail
        refine (HT0.out _).mono ?_
        rintro e w5 ⟨rfl, hb5⟩
        have hN5 : w5.heap[N]? = some (.cells #[.int .i64 0, .int .i64 0, .string ⟨#[]⟩] 23) := (hb5.block N (by simp; omega)).trans ((Below.heap_alloc _ _ _ hz1).trans hc)
        have hX5 := heap_new _ _ hb5
        have hb6 : Below N w w5 := (hb2.alloc (by omega) _).trans (hb5.mono (by simp; omega))
        obtain ⟨c0, c1, c2, f0, f1, f2⟩ := blk3 hN5
        obtain ⟨x0, x1, x2, y0, y1, y2⟩ := blk3 hX5
        clear hb5 hN5 hX5 hc hb2
        go_wp2
        refine bodyPost_ret (v := .tuple #[.agg #[.int .i64 0, .int .i64 0, .string ⟨#[]⟩], .int .i64 60]) (by simp [results, Tryz.results17, go_sem, c0, c1, c2]) rfl ?_
        exact ⟨rfl, by repeat (first | exact hb6 | refine Below.setCell ?_ (by simp) _)⟩
      · rw [hres]
        clear hres
        go_enter Tryz.func17, Tryz.ntmps17
        go_wp2_with fail
        refine Calls.mono HRs.out ?_
        rintro e w1 ⟨rfl, hb1⟩
        have hc := heap_new _ _ hb1
        rw [hN] at hc
        have hb2 : Below N w w1 := hb0.trans (hb1.mono (by simp; omega))
        have hz1 : N < w1.heap.size := by have := hb1.size; simp at this; omega
        clear hb1
        go_wp2_with fail
        refine (HT0.out _).mono ?_
        rintro e w5 ⟨rfl, hb5⟩
        have hN5 : w5.heap[N]? = some (.cells #[.int .i64 0, .int .i64 0, .string ⟨#[]⟩] 23) := (hb5.block N (by simp; omega)).trans ((Below.heap_alloc _ _ _ hz1).trans hc)
        have hX5 := heap_new _ _ hb5
        have hb6 : Below N w w5 := (hb2.alloc (by omega) _).trans (hb5.mono (by simp; omega))
        obtain ⟨c0, c1, c2, f0, f1, f2⟩ := blk3 hN5
        obtain ⟨x0, x1, x2, y0, y1, y2⟩ := blk3 hX5
        clear hb5 hN5 hX5 hc hb2
        go_wp2
        refine bodyPost_ret (v := .tuple #[.agg #[.int .i64 0, .int .i64 0, .string ⟨#[]⟩], .int .i64 60]) (by simp [results, Tryz.results17, go_sem, c0, c1, c2]) rfl ?_
        exact ⟨rfl, by repeat (first | exact hb6 | refine Below.setCell ?_ (by simp) _)⟩
      · rw [hres]
        clear hres
        go_enter Tryz.func17, Tryz.ntmps17
        go_wp2_with fail
        refine Calls.mono HRs.out ?_
        rintro e w1 ⟨rfl, hb1⟩
        have hc := heap_new _ _ hb1
        rw [hN] at hc
        have hb2 : Below N w w1 := hb0.trans (hb1.mono (by simp; omega))
        have hz1 : N < w1.heap.size := by have := hb1.size; simp at this; omega
        clear hb1
        go_wp2_with fail
        refine (HT0.out _).mono ?_
        rintro e w5 ⟨rfl, hb5⟩
        have hN5 : w5.heap[N]? = some (.cells #[.int .i64 0, .int .i64 0, .string ⟨#[]⟩] 23) := (hb5.block N (by simp; omega)).trans ((Below.heap_alloc _ _ _ hz1).trans hc)
        have hX5 := heap_new _ _ hb5
        have hb6 : Below N w w5 := (hb2.alloc (by omega) _).trans (hb5.mono (by simp; omega))
        obtain ⟨c0, c1, c2, f0, f1, f2⟩ := blk3 hN5
        obtain ⟨x0, x1, x2, y0, y1, y2⟩ := blk3 hX5
        clear hb5 hN5 hX5 hc hb2
        go_wp2
        refine bodyPost_ret (v := .tuple #[.agg #[.int .i64 0, .int .i64 0, .string ⟨#[]⟩], .int .i64 60]) (by simp [results, Tryz.results17, go_sem, c0, c1, c2]) rfl ?_
        exact ⟨rfl, by repeat (first | exact hb6 | refine Below.setCell ?_ (by simp) _)⟩
end Go.Proofs.YtkdhaipjfkalfaaGreatDoor
