import Derived.Test.YtccjfoldjbmnfaaDoorRh
namespace Go.Proofs.YtccjfoldjbmnfaaDoor
open Go Go.RowKit Go.Lib
set_option linter.unusedSimpArgs false

set_option maxRecDepth 100000 in
set_option maxHeartbeats 1000000 in
theorem refRight_any (k n : Int) (s : ByteArray) (w : World) (hs : s.size ≤ 1000000) :
    Calls Tryd.prog 17 #[.agg #[.int .i64 k, .int .i64 n, .string s]] w fun e w' => e = .returned (.bool (rightP ⟨k, n, s⟩)) ∧ Below w.heap.size w w' := by
  have hb0 : Below w.heap.size w (w.alloc (.cells #[.int .i64 k, .int .i64 n, .string s] 23)) := (Below.refl _ w).alloc (Nat.le_refl _) _
  have hse : ∃ b, s.toList.isEmpty = b ∧ Hid (s.data.toList.isEmpty = b) := ⟨_, rfl, hid (by rw [Lib.toList_data])⟩
  obtain ⟨em, he, HE⟩ := hse
  by_cases k0 : k = 0
  · subst k0
    cases hn : (n == 0) with
    | false =>
      go_enter Tryd.func17, Tryd.ntmps17
      go_wp2
      go_ret
      exact ⟨by rw [show rightP ⟨0, n, s⟩ = false from (by unfold rightP; simp [hn])]; rfl, hb0⟩
    | true =>
      have hn0 : n = 0 := by simpa using hn
      subst hn0
      go_enter Tryd.func17, Tryd.ntmps17
      go_wp2
      go_ret
      exact ⟨by rw [show rightP ⟨0, 0, s⟩ = em from (by unfold rightP; simp [HE.out])]; rfl, hb0⟩
  by_cases k1 : k = 1
  · subst k1
    by_cases n0 : n = 0
    · subst n0
      go_enter Tryd.func17, Tryd.ntmps17
      go_wp2
      go_ret
      exact ⟨by rw [show rightP ⟨1, 0, s⟩ = em from (by unfold rightP; simp [HE.out])]; rfl, hb0⟩
    by_cases n1 : n = 1
    · subst n1
      go_enter Tryd.func17, Tryd.ntmps17
      go_wp2
      go_ret
      exact ⟨by rw [show rightP ⟨1, 1, s⟩ = em from (by unfold rightP; simp [HE.out])]; rfl, hb0⟩
    · have e0 : (n == 0) = false := by simpa using n0
      have e1 : (n == 1) = false := by simpa using n1
      go_enter Tryd.func17, Tryd.ntmps17
      go_wp2
      go_ret
      exact ⟨by rw [show rightP ⟨1, n, s⟩ = false from (by unfold rightP; simp [e0, e1])]; rfl, hb0⟩
  by_cases k2 : k = 2
  · subst k2
    by_cases n0 : -999999999999999 ≤ n
    · by_cases n1 : n ≤ 999999999999999
      · have H0 := hid n0; have H1 := hid n1
        go_enter Tryd.func17, Tryd.ntmps17
        go_wp2
        go_ret
        exact ⟨by rw [show rightP ⟨2, n, s⟩ = em from (by unfold rightP; simp [HE.out]; intro _; exact ⟨H0.out, H1.out⟩)]; rfl, hb0⟩
      · have H1 := hid n1
        go_enter Tryd.func17, Tryd.ntmps17
        go_wp2
        go_ret
        exact ⟨by rw [show rightP ⟨2, n, s⟩ = false from (by unfold rightP; have := H1.out; simp; omega)]; rfl, hb0⟩
    · have H1 := hid n0
      go_enter Tryd.func17, Tryd.ntmps17
      go_wp2
      go_ret
      exact ⟨by rw [show rightP ⟨2, n, s⟩ = false from (by unfold rightP; have := H1.out; simp; omega)]; rfl, hb0⟩
  by_cases k3 : k = 3
  · subst k3
    cases hn : (n == 0) with
    | false =>
      go_enter Tryd.func17, Tryd.ntmps17
      go_wp2
      go_ret
      exact ⟨by rw [show rightP ⟨3, n, s⟩ = false from (by unfold rightP; simp [hn])]; rfl, hb0⟩
    | true =>
      have HN := hid hn
      go_enter Tryd.func17, Tryd.ntmps17
      go_wp2_with fail
      refine (refRight04_any s _ hs).mono ?_
      rintro e w1 ⟨rfl, hb1⟩
      go_wp2
      go_ret
      exact ⟨by rw [show rightP ⟨3, n, s⟩ = validD s.data.toList from (by unfold rightP; simp [HN.out])]; rfl, hb0.trans (hb1.mono (by simp))⟩
  have e0 : (k == 0) = false := by simpa using k0
  have e1 : (k == 1) = false := by simpa using k1
  have e2 : (k == 2) = false := by simpa using k2
  have e3 : (k == 3) = false := by simpa using k3
  go_enter Tryd.func17, Tryd.ntmps17
  go_wp2
  go_ret
  exact ⟨by rw [show rightP ⟨k, n, s⟩ = false from (by unfold rightP; simp [k0, k1, k2, k3])]; rfl, hb0⟩
end Go.Proofs.YtccjfoldjbmnfaaDoor
