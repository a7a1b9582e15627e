import Derived.Test.YtccjfoldjbmnfaaDoorWk
namespace Go.Proofs.YtccjfoldjbmnfaaDoor
open Go Go.RowKit Go.Lib

set_option maxRecDepth 100000 in
set_option maxHeartbeats 400000 in
theorem Read_any (s : ByteArray) (flow : Bool) (w : World) (hs : s.size ≤ 1000000) (hT : Tabs w) :
    Calls Tryd.prog 12 #[.string s, .bool flow] w fun e w' => e = .returned (.tuple #[scV (readP s flow).1, .int .i64 (readP s flow).2]) ∧ Below w.heap.size w w' := by
  obtain ⟨⟨⟨k, n, t⟩, er⟩, hx⟩ : ∃ p, resolveP s = p := ⟨_, rfl⟩
  have HX := hid hx; clear hx
  go_enter Tryd.func12, Tryd.ntmps12
  go_wp2_with fail
  refine (May_any s flow _ hs (hT.below ((Below.refl _ w).alloc (Nat.le_refl _) _))).mono ?_
  rintro e w1 ⟨rfl, hb1⟩
  have hbw : Below w.heap.size w w1 := ((Below.refl _ w).alloc (Nat.le_refl _) _).trans (hb1.mono (by simp))
  have hT1 := hT.below hbw
  have hk := heap_new _ _ hb1
  cases hm : mayP s.data.toList flow with
  | false =>
    obtain ⟨c0, c1, c2, f0, f1, f2⟩ := blk3 hk
    have HM := hid hm; clear hm hk
    go_wp2
    refine bodyPost_ret (v := .tuple #[.agg #[.int .i64 0, .int .i64 0, .string ⟨#[]⟩], .int .i64 51]) (by simp [results, Tryd.results12, go_sem, c0, c1, c2]) rfl ⟨?_, ?_⟩
    · rw [show readP s flow = (sc0, 51) from (by unfold readP; rw [HM.out]; rfl)]; rfl
    · repeat (first | exact hbw | refine Below.setCell ?_ (by simp) _)
  | true =>
    have HM := hid hm; clear hm
    go_wp2_with fail
    refine (Resolve_any s _ hs hT1).mono ?_
    rw [HX.out]
    unfold scV
    rintro e w2 ⟨rfl, hb2⟩
    have hk2 := heap_below hk hb2
    have hb02 : Below w.heap.size w w2 := hbw.trans (hb2.mono hbw.size)
    obtain ⟨c0, c1, c2, f0, f1, f2⟩ := blk3 hk2
    clear hk hk2
    go_wp2
    refine bodyPost_ret (v := .tuple #[.agg #[.int .i64 k, .int .i64 n, .string t], .int .i64 er]) (by simp [results, Tryd.results12, go_sem, c0, c1, c2]) rfl ⟨?_, ?_⟩
    · rw [show readP s flow = resolveP s from (by unfold readP; rw [HM.out]; rfl), HX.out]; rfl
    · repeat (first | exact hb02 | refine Below.setCell ?_ (by simp) _)

/-- Is it a scalar? -/
def rightP (x : Sc) : Bool :=
  if x.kind = 0 then (x.num == 0) && x.str.data.toList.isEmpty
  else if x.kind = 1 then x.str.data.toList.isEmpty && (x.num == 0 || x.num == 1)
  else if x.kind = 2 then x.str.data.toList.isEmpty && (decide (-999999999999999 ≤ x.num) && decide (x.num ≤ 999999999999999))
  else if x.kind = 3 then (x.num == 0) && validD x.str.data.toList
  else false

set_option maxRecDepth 100000 in
set_option maxHeartbeats 400000 in
theorem plainRight_any (k n : Int) (s : ByteArray) (w : World) (hs : s.size ≤ 1000000) (hT : Tabs w) :
    Calls Tryd.prog 16 #[.agg #[.int .i64 k, .int .i64 n, .string s]] w fun e w' => e = .returned (.bool (rightP ⟨k, n, s⟩)) ∧ Below w.heap.size w w' := by
  have hb0 : Below w.heap.size w (w.alloc (.cells #[.int .i64 k, .int .i64 n, .string s] 23)) := (Below.refl _ w).alloc (Nat.le_refl _) _
  by_cases k0 : k = 0
  · subst k0
    cases hn : (n == 0) with
    | false =>
      go_enter Tryd.func16, Tryd.ntmps16
      go_wp2
      go_ret
      exact ⟨by rw [show rightP ⟨0, n, s⟩ = false from (by unfold rightP; simp [hn])]; rfl, hb0⟩
    | true =>
      have hn0 : n = 0 := by simpa using hn
      subst hn0
      by_cases he : 0 < s.size
      · have he' := isEmpty_false he
        have HE : Hid (s.data.toList.isEmpty = false) := hid (by rw [← Lib.toList_data]; exact he')
        go_enter Tryd.func16, Tryd.ntmps16
        go_wp2
        go_ret
        exact ⟨by rw [show rightP ⟨0, 0, s⟩ = false from (by unfold rightP; simp [HE.out])]; rfl, hb0⟩
      · have he' := isEmpty_true he
        have HE : Hid (s.data.toList.isEmpty = true) := hid (by rw [← Lib.toList_data]; exact he')
        go_enter Tryd.func16, Tryd.ntmps16
        go_wp2
        go_ret
        exact ⟨by rw [show rightP ⟨0, 0, s⟩ = true from (by unfold rightP; simp [HE.out])]; rfl, hb0⟩
  by_cases k1 : k = 1
  · subst k1
    by_cases he : 0 < s.size
    · have he' := isEmpty_false he
      have HE : Hid (s.data.toList.isEmpty = false) := hid (by rw [← Lib.toList_data]; exact he')
      go_enter Tryd.func16, Tryd.ntmps16
      go_wp2
      go_ret
      exact ⟨by rw [show rightP ⟨1, n, s⟩ = false from (by unfold rightP; simp [HE.out])]; rfl, hb0⟩
    · have he' := isEmpty_true he
      have HE : Hid (s.data.toList.isEmpty = true) := hid (by rw [← Lib.toList_data]; exact he')
      cases hn : (n == 0) with
      | true =>
        go_enter Tryd.func16, Tryd.ntmps16
        go_wp2
        go_ret
        exact ⟨by rw [show rightP ⟨1, n, s⟩ = true from (by unfold rightP; simp [HE.out, hn])]; rfl, hb0⟩
      | false =>
        go_enter Tryd.func16, Tryd.ntmps16
        go_wp2
        go_ret
        exact ⟨by rw [show rightP ⟨1, n, s⟩ = (n == 1) from (by unfold rightP; simp [HE.out, hn])]; rfl, hb0⟩
  by_cases k2 : k = 2
  · subst k2
    by_cases he : 0 < s.size
    · have he' := isEmpty_false he
      have HE : Hid (s.data.toList.isEmpty = false) := hid (by rw [← Lib.toList_data]; exact he')
      go_enter Tryd.func16, Tryd.ntmps16
      go_wp2
      go_ret
      exact ⟨by rw [show rightP ⟨2, n, s⟩ = false from (by unfold rightP; simp [HE.out])]; rfl, hb0⟩
    · have he' := isEmpty_true he
      have HE : Hid (s.data.toList.isEmpty = true) := hid (by rw [← Lib.toList_data]; exact he')
      by_cases hn : -999999999999999 ≤ n
      · go_enter Tryd.func16, Tryd.ntmps16
        go_wp2
        go_ret
        exact ⟨by rw [show rightP ⟨2, n, s⟩ = decide (n ≤ 999999999999999) from (by unfold rightP; simp [HE.out, hn])]; rfl, hb0⟩
      · go_enter Tryd.func16, Tryd.ntmps16
        go_wp2
        go_ret
        exact ⟨by rw [show rightP ⟨2, n, s⟩ = false from (by unfold rightP; simp [HE.out]; omega)]; rfl, hb0⟩
  by_cases k3 : k = 3
  · subst k3
    cases hn : (n == 0) with
    | false =>
      go_enter Tryd.func16, Tryd.ntmps16
      go_wp2
      go_ret
      exact ⟨by rw [show rightP ⟨3, n, s⟩ = false from (by unfold rightP; simp [hn])]; rfl, hb0⟩
    | true =>
      have HN := hid hn
      go_enter Tryd.func16, Tryd.ntmps16
      go_wp2_with fail
      refine (Right_any s _ hs (hT.below hb0)).mono ?_
      rintro e w1 ⟨rfl, hb1⟩
      go_wp2
      go_ret
      exact ⟨by rw [show rightP ⟨3, n, s⟩ = validD s.data.toList from (by unfold rightP; simp [HN.out])]; rfl, hb0.trans (hb1.mono (by simp))⟩
  have e0 : (k == 0) = false := by simpa using k0
  have e1 : (k == 1) = false := by simpa using k1
  have e2 : (k == 2) = false := by simpa using k2
  have e3 : (k == 3) = false := by simpa using k3
  go_enter Tryd.func16, Tryd.ntmps16
  go_wp2
  go_ret
  exact ⟨by rw [show rightP ⟨k, n, s⟩ = false from (by unfold rightP; simp [k0, k1, k2, k3])]; rfl, hb0⟩
end Go.Proofs.YtccjfoldjbmnfaaDoor
