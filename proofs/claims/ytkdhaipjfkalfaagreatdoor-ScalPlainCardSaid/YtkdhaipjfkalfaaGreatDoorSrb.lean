import Derived.Test.YtkdhaipjfkalfaaGreatDoorSr
/- What is proved: package scal's said and Read, at every text of a bounded length. -/
namespace Go.Proofs.YtkdhaipjfkalfaaGreatDoor
open Go Go.RowKit Go.Lib
set_option linter.unusedSimpArgs false
set_option linter.unusedVariables false

/-- What a text says, as an interface's value. -/
def SaidV (s : ByteArray) (v : Value) : Prop := match saidP s with
  | some x => v = .iface 23 (scV x)
  | none => ∃ n : Int, v = .iface 27 (.int .i64 n)
def SaidPost (s : ByteArray) (w : World) (e : Ending) (w' : World) : Prop := ∃ v, e = .returned v ∧ SaidV s v ∧ Below w.heap.size w w'
theorem as_sc (v : Value) (w : World) : (Instr.typeAssert (.iface 23 v) 20 23 true).run Tryz.prog w = .ok (.tuple #[v, .bool true]) w := by kernel_rfl
theorem as_err (v : Value) (w : World) : (Instr.typeAssert (.iface 27 v) 20 23 true).run Tryz.prog w = .ok (.tuple #[.agg #[.int .i64 0, .int .i64 0, .string ⟨#[]⟩], .bool false]) w := by kernel_rfl


theorem head_34 {s : ByteArray} (h0 : 0 < s.size) : (Utf8.decode s 0).1 = 34 ↔ s.data.toList.headD 0 = 34 := by
  have hh : s.data.toList.headD 0 = s[0]'h0 := by rw [head_rest s h0]; rfl
  rw [hh]
  constructor
  · intro h
    have := runeAt_byte s 0 h0 34 (by rw [runeAt_lt s 0 h0, h]; rfl) (by decide)
    exact UInt8.toNat_inj.1 (by show (s[0]'h0).toNat = 34; omega)
  · intro h
    have := runeAt_byte' s 0 h0 (by rw [h]; decide)
    rw [runeAt_lt s 0 h0, h] at this
    have h2 : ((34 : UInt8).toNat : Int) = 34 := rfl
    omega
set_option maxRecDepth 100000 in
set_option maxHeartbeats 2000000 in
theorem said_any (s : ByteArray) (w : World) (hs : s.size ≤ 100000) (hT : Tabs w) :
    Calls Tryz.prog 35 #[.string s] w (SaidPost s w) := by
  have hbi : Below w.heap.size w (w.iter s 0) := (Below.refl _ w).alloc (Nat.le_refl _) _
  by_cases h34 : s.data.toList.headD 0 = 34
  · have h0 : 0 < s.size := by
      rw [Lib.size_eq]
      cases hl : s.data.toList with
      | nil => rw [hl] at h34; simp at h34
      | cons _ _ => simp
    have hd := (head_34 h0).2 h34
    have hnx := fun ty => run_next_any (P := Tryz.prog) w s 0 ty h0
    rw [hd] at hnx
    have hb1 : Below w.heap.size w (w.iter s (Utf8.decode s 0).2) := (Below.refl _ w).alloc (Nat.le_refl _) _
    have hQ := qRead_any s 0 (w.iter s (Utf8.decode s 0).2) (by omega) (hT.below hb1)
    have HS := hid (show saidP s = if (readQ s 0).2.2 = 0 then some ⟨3, 0, ⟨(readQ s 0).1.toArray⟩⟩ else none by unfold saidP; rw [if_pos h34])
    obtain ⟨⟨t, q, er⟩, hr⟩ : ∃ r, readQ s 0 = r := ⟨_, rfl⟩
    rw [hr] at hQ HS
    unfold resQ at hQ
    have HQ := hid hQ
    clear hd hr hQ h34
    by_cases he : er = 0
    · subst he
      have HV := hid (show SaidV s (.iface 23 (.agg #[.int .i64 3, .int .i64 0, .string ⟨t.toArray⟩])) by unfold SaidV; rw [HS.out]; rfl)
      clear HS
      go_enter Tryz.func35, Tryz.ntmps35
      go_wp2
      refine wp_loop_rounds 1 ?_
      rw [rounds_succ]
      go_wp2_with fail
      refine Calls.mono HQ.out ?_
      rintro e w1 ⟨rfl, hb2⟩
      go_wp2
      refine bodyPost_ret (v := .iface 23 (.agg #[.int .i64 3, .int .i64 0, .string ⟨t.toArray⟩])) (by simp [results, Tryz.results35, go_sem]) rfl ?_
      exact ⟨_, rfl, HV.out, hb1.trans (hb2.mono hb1.size)⟩
    · have HV := hid (show SaidV s (.iface 27 (.int .i64 er)) by unfold SaidV; rw [HS.out, if_neg he]; exact ⟨_, rfl⟩)
      have hne : ((er : Int) == 0) = false := by rw [beq_eq_false_iff_ne]; exact he
      clear HS he
      go_enter Tryz.func35, Tryz.ntmps35
      go_wp2
      refine wp_loop_rounds 1 ?_
      rw [rounds_succ]
      go_wp2_with fail
      refine Calls.mono HQ.out ?_
      rintro e w1 ⟨rfl, hb2⟩
      go_wp2
      refine bodyPost_ret (v := .iface 27 (.int .i64 er)) (by simp [results, Tryz.results35, go_sem]) rfl ?_
      exact ⟨_, rfl, HV.out, hb1.trans (hb2.mono hb1.size)⟩
  · have hR := fun wx (hb : Below w.heap.size w wx) => Resolve_any s wx (by omega) (hT.below hb)
    have HS := hid (show saidP s = if (resolveP s).2 = 0 then some (resolveP s).1 else none by unfold saidP; rw [if_neg h34])
    obtain ⟨⟨⟨k, n, t⟩, er⟩, hr⟩ : ∃ r, resolveP s = r := ⟨_, rfl⟩
    rw [hr] at hR HS
    unfold scV at hR
    have tail : ∀ wx, Below w.heap.size w wx → ∀ wy, Below wx.heap.size wx wy → Below w.heap.size w wy := fun wx h1 wy h2 => h1.trans (h2.mono h1.size)
    have key : ∀ (Q : Prop), (er = 0 → Q) → (er ≠ 0 → Q) → Q := fun Q h1 h2 => (Decidable.em (er = 0)).elim h1 h2
    clear hr
    by_cases h0 : 0 < s.size
    · have hd : ((Utf8.decode s 0).1 : Int) ≠ 34 := fun h => h34 ((head_34 h0).1 (by omega))
      have hd' : (((Utf8.decode s 0).1 : Int) == 34) = false := by rw [beq_eq_false_iff_ne]; exact hd
      have hd2 : (((Utf8.decode s 0).1 : Int) != 34) = true := by rw [bne_iff_ne]; exact hd
      have hnx := fun ty => run_next_any (P := Tryz.prog) w s 0 ty h0
      have hb1 : Below w.heap.size w (w.iter s (Utf8.decode s 0).2) := (Below.refl _ w).alloc (Nat.le_refl _) _
      have HR := hid (hR _ hb1)
      clear hR hd h34
      by_cases he : er = 0
      · subst he
        have HV := hid (show SaidV s (.iface 23 (.agg #[.int .i64 k, .int .i64 n, .string t])) by unfold SaidV; rw [HS.out]; rfl)
        clear HS key
        go_enter Tryz.func35, Tryz.ntmps35
        go_wp2
        refine wp_loop_rounds 1 ?_
        rw [rounds_succ]
        go_wp2_with fail
        refine Calls.mono HR.out ?_
        rintro e w1 ⟨rfl, hb2⟩
        go_wp2
        refine bodyPost_ret (v := .iface 23 (.agg #[.int .i64 k, .int .i64 n, .string t])) (by simp [results, Tryz.results35, go_sem]) rfl ?_
        exact ⟨_, rfl, HV.out, ((tail _ hb1 _ hb2).alloc (by have := (tail _ hb1 _ hb2).size; omega) _)⟩
      · have HV := hid (show SaidV s (.iface 27 (.int .i64 er)) by unfold SaidV; rw [HS.out, if_neg he]; exact ⟨_, rfl⟩)
        have hne : ((er : Int) == 0) = false := by rw [beq_eq_false_iff_ne]; exact he
        clear HS key he
        go_enter Tryz.func35, Tryz.ntmps35
        go_wp2
        refine wp_loop_rounds 1 ?_
        rw [rounds_succ]
        go_wp2_with fail
        refine Calls.mono HR.out ?_
        rintro e w1 ⟨rfl, hb2⟩
        go_wp2
        refine bodyPost_ret (v := .iface 27 (.int .i64 er)) (by simp [results, Tryz.results35, go_sem]) rfl ?_
        exact ⟨_, rfl, HV.out, ((tail _ hb1 _ hb2).alloc (by have := (tail _ hb1 _ hb2).size; omega) _)⟩
    · have hnx := fun ty => run_next_end (P := Tryz.prog) w s 0 ty h0
      have HR := hid (hR _ hbi)
      clear hR h34
      by_cases he : er = 0
      · subst he
        have HV := hid (show SaidV s (.iface 23 (.agg #[.int .i64 k, .int .i64 n, .string t])) by unfold SaidV; rw [HS.out]; rfl)
        clear HS key
        go_enter Tryz.func35, Tryz.ntmps35
        go_wp2
        refine wp_loop_rounds 1 ?_
        rw [rounds_succ]
        go_wp2_with fail
        refine Calls.mono HR.out ?_
        rintro e w1 ⟨rfl, hb2⟩
        go_wp2
        refine bodyPost_ret (v := .iface 23 (.agg #[.int .i64 k, .int .i64 n, .string t])) (by simp [results, Tryz.results35, go_sem]) rfl ?_
        exact ⟨_, rfl, HV.out, ((tail _ hbi _ hb2).alloc (by have := (tail _ hbi _ hb2).size; omega) _)⟩
      · have HV := hid (show SaidV s (.iface 27 (.int .i64 er)) by unfold SaidV; rw [HS.out, if_neg he]; exact ⟨_, rfl⟩)
        have hne : ((er : Int) == 0) = false := by rw [beq_eq_false_iff_ne]; exact he
        clear HS key he
        go_enter Tryz.func35, Tryz.ntmps35
        go_wp2
        refine wp_loop_rounds 1 ?_
        rw [rounds_succ]
        go_wp2_with fail
        refine Calls.mono HR.out ?_
        rintro e w1 ⟨rfl, hb2⟩
        go_wp2
        refine bodyPost_ret (v := .iface 27 (.int .i64 er)) (by simp [results, Tryz.results35, go_sem]) rfl ?_
        exact ⟨_, rfl, HV.out, ((tail _ hbi _ hb2).alloc (by have := (tail _ hbi _ hb2).size; omega) _)⟩
end Go.Proofs.YtkdhaipjfkalfaaGreatDoor

/- What is proved: package scal's Read, at every text of a bounded length. -/
namespace Go.Proofs.YtkdhaipjfkalfaaGreatDoor
open Go Go.RowKit Go.Lib
set_option linter.unusedSimpArgs false
set_option linter.unusedVariables false

def readSV (s : ByteArray) : Value := .tuple #[scV (readS s).1, .int .i64 (readS s).2]
theorem bytes_ext {a b : ByteArray} (h : a.data.toList = b.data.toList) : a = b := (mk_of h).trans (mk_of rfl).symm
/-- How Read ends, for one that is said. -/
theorem readS_some {s : ByteArray} {x : Sc} (h : saidP s = some x) : readS s = if (textP x).2 = 0 ∧ (textP x).1 = s then (x, 0) else (sc0, 60) := by
  unfold readS textP
  rw [h]
  by_cases hr : rightP x = true
  · rw [if_pos hr]
    by_cases ht : textL x = s.data.toList
    · rw [if_pos ⟨rfl, by show (⟨(textL x).toArray⟩ : ByteArray) = s; exact (mk_of ht.symm).symm⟩]
      simp [hr, ht]
    · rw [if_neg (fun hh => ht (by
        have h2 := congrArg (fun b : ByteArray => b.data.toList) hh.2
        simpa using h2))]
      simp [hr, ht]
  · rw [if_neg hr, if_neg (fun hh => by cases hh.1)]
    simp [hr]
theorem readS_none {s : ByteArray} (h : saidP s = none) : readS s = (sc0, 60) := by unfold readS; rw [h]
theorem text_cases (x : Sc) : ((textP x).2 = 0 ∨ (textP x).2 = 60) := by unfold textP; split <;> simp

set_option maxRecDepth 100000 in
set_option maxHeartbeats 2000000 in
theorem scRead_any (s : ByteArray) (w : World) (hs : s.size ≤ 10000) (hT : Tabs w) :
    Calls Tryz.prog 16 #[.string s] w fun e w' => e = .returned (readSV s) ∧ Below w.heap.size w w' := by
  unfold readSV
  obtain ⟨N, hN⟩ : ∃ N, w.heap.size = N := ⟨_, rfl⟩
  have hb0 : Below N w (w.alloc (.cells #[.int .i64 0, .int .i64 0, .string ⟨#[]⟩] 23)) := (Below.refl N w).alloc (by omega) _
  have hS := said_any s (w.alloc (.cells #[.int .i64 0, .int .i64 0, .string ⟨#[]⟩] 23)) (by omega) (hT.below (hN ▸ hb0))
  have hTx := fun (x : Sc) wx (hx : x.str.size ≤ 100000) (hb : Below N w wx) => scText_any x wx hx (hT.below (hN ▸ hb))
  rw [hN]
  cases hsd : saidP s with
  | none =>
    rw [readS_none hsd]
    have hT0 := fun wx hb => hTx sc0 wx (by decide) hb
    have htc := text_cases sc0
    unfold textV at hT0
    obtain ⟨⟨T, er⟩, ht⟩ : ∃ r, textP sc0 = r := ⟨_, rfl⟩
    rw [ht] at hT0
    have HT0 := hid hT0
    unfold SaidPost SaidV at hS
    rw [hsd] at hS
    have HS := hid hS
    clear hS hT0 hTx htc ht hsd
    go_enter Tryz.func16, Tryz.ntmps16
    go_wp2_with fail
    refine Calls.mono HS.out ?_
    rintro e w1 ⟨v, rfl, ⟨n0, rfl⟩, hb1⟩
    have hc := heap_new _ _ hb1
    rw [hN] at hc
    have hb2 : Below N w w1 := hb0.trans (hb1.mono (by simp; omega))
    have hz1 : N < w1.heap.size := by have := hb1.size; simp at this; omega
    have hA := as_err
    clear hb1 HS
    go_wp2_with fail
    have hb3 : Below N w (w1.alloc (.cells #[.int .i64 0, .int .i64 0, .string ⟨#[]⟩] 23)) := hb2.alloc (by omega) _
    refine Calls.mono (HT0.out _ hb3) ?_
    rintro e w2 ⟨rfl, hb4⟩
    have hc2 : w2.heap[N]? = some (.cells #[.int .i64 0, .int .i64 0, .string ⟨#[]⟩] 23) := (hb4.block N (by simp; omega)).trans ((Below.heap_alloc _ _ _ hz1).trans hc)
    have hb5 : Below N w w2 := hb3.trans (hb4.mono (by simp; omega))
    obtain ⟨c0, c1, c2, f0, f1, f2⟩ := blk3 hc2
    clear hb4 hc hc2 hb3 hb2 hA
    go_wp2
    refine bodyPost_ret (v := .tuple #[scV sc0, .int .i64 60]) (by simp [results, Tryz.results16, go_sem, c0, c1, c2, scV, sc0]) rfl ?_
    exact ⟨rfl, by repeat (first | exact hb5 | refine Below.setCell ?_ (by simp) _)⟩
  | some x =>
    rw [readS_some hsd]
    have hxs := saidP_size hsd
    have hT0 := fun wx hb => hTx x wx (by omega) hb
    have htc := text_cases x
    unfold textV at hT0
    obtain ⟨⟨T, er⟩, ht⟩ : ∃ r, textP x = r := ⟨_, rfl⟩
    rw [ht] at hT0 htc ⊢
    unfold SaidPost SaidV at hS
    rw [hsd] at hS
    obtain ⟨k, n, t⟩ := x
    unfold scV at hS hT0 ⊢
    have HS := hid hS
    have HT0 := hid hT0
    clear hS hT0 hTx ht hsd hxs
    simp only at htc ⊢
    have fin : ∀ w2 : World, Below N w w2 → True := fun _ _ => trivial
    by_cases hok : er = 0 ∧ T = s
    · obtain ⟨rfl, rfl⟩ := hok
      rw [if_pos ⟨rfl, rfl⟩]
      simp only
      have hcmp : (T.toList == T.toList) = true := by simp
      clear htc fin
      go_enter Tryz.func16, Tryz.ntmps16
      go_wp2_with fail
      refine Calls.mono HS.out ?_
      rintro e w1 ⟨v, rfl, rfl, hb1⟩
      have hc := heap_new _ _ hb1
      rw [hN] at hc
      have hb2 : Below N w w1 := hb0.trans (hb1.mono (by simp; omega))
      have hz1 : N < w1.heap.size := by have := hb1.size; simp at this; omega
      have hA := as_sc
      clear hb1 HS
      go_wp2_with fail
      have hb3 : Below N w (w1.alloc (.cells #[.int .i64 k, .int .i64 n, .string t] 23)) := hb2.alloc (by omega) _
      refine Calls.mono (HT0.out _ hb3) ?_
      rintro e w2 ⟨rfl, hb4⟩
      have hc2 : w2.heap[N]? = some (.cells #[.int .i64 0, .int .i64 0, .string ⟨#[]⟩] 23) := (hb4.block N (by simp; omega)).trans ((Below.heap_alloc _ _ _ hz1).trans hc)
      have hx2 := heap_new _ _ hb4
      have hb5 : Below N w w2 := hb3.trans (hb4.mono (by simp; omega))
      obtain ⟨c0, c1, c2, f0, f1, f2⟩ := blk3 hc2
      obtain ⟨d0, d1, d2, g0, g1, g2⟩ := blk3 hx2
      clear hb4 hc hc2 hb3 hb2 hA hx2
      go_wp2
      refine bodyPost_ret (v := .tuple #[.agg #[.int .i64 k, .int .i64 n, .string t], .int .i64 0]) (by simp [results, Tryz.results16, go_sem, c0, c1, c2]) rfl ?_
      exact ⟨rfl, by repeat (first | exact hb5 | refine Below.setCell ?_ (by simp) _)⟩
    · rw [if_neg hok]
      simp only [sc0]
      have hno : er = 60 ∨ (er = 0 ∧ (T.toList == s.toList) = false) := by
        rcases htc with h | h
        · refine .inr ⟨h, ?_⟩
          rw [beq_eq_false_iff_ne, Lib.toList_data, Lib.toList_data]
          exact fun h2 => hok ⟨h, bytes_ext h2⟩
        · exact .inl h
      clear htc fin hok
      rcases hno with rfl | ⟨rfl, hcmp⟩
      all_goals
        go_enter Tryz.func16, Tryz.ntmps16
        go_wp2_with fail
        refine Calls.mono HS.out ?_
        rintro e w1 ⟨v, rfl, rfl, hb1⟩
        have hc := heap_new _ _ hb1
        rw [hN] at hc
        have hb2 : Below N w w1 := hb0.trans (hb1.mono (by simp; omega))
        have hz1 : N < w1.heap.size := by have := hb1.size; simp at this; omega
        have hA := as_sc
        clear hb1
        go_wp2_with fail
        have hb3 : Below N w (w1.alloc (.cells #[.int .i64 k, .int .i64 n, .string t] 23)) := hb2.alloc (by omega) _
        refine Calls.mono (HT0.out _ hb3) ?_
        rintro e w2 ⟨rfl, hb4⟩
        have hc2 : w2.heap[N]? = some (.cells #[.int .i64 0, .int .i64 0, .string ⟨#[]⟩] 23) := (hb4.block N (by simp; omega)).trans ((Below.heap_alloc _ _ _ hz1).trans hc)
        have hb5 : Below N w w2 := hb3.trans (hb4.mono (by simp; omega))
        obtain ⟨c0, c1, c2, f0, f1, f2⟩ := blk3 hc2
        clear hb4 hc hc2 hb3 hb2 hA
        go_wp2
        refine bodyPost_ret (v := .tuple #[.agg #[.int .i64 0, .int .i64 0, .string ⟨#[]⟩], .int .i64 60]) (by simp [results, Tryz.results16, go_sem, c0, c1, c2]) rfl ?_
        exact ⟨rfl, by repeat (first | exact hb5 | refine Below.setCell ?_ (by simp) _)⟩
end Go.Proofs.YtkdhaipjfkalfaaGreatDoor
