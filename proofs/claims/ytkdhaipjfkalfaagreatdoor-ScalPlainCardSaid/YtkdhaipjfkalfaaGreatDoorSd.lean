import Derived.Handy
import Derived.Test.YtkdhaipjfkalfaaGreatDoorSv
import Derived.Test.YtkdhaipjfkalfaaGreatDoorSb
import Derived.Test.YtkdhaipjfkalfaaGreatDoorRi
/- What is proved: the reference for layer 6: Compare, digits, Text, at every scalar. -/
namespace Go.Proofs.YtkdhaipjfkalfaaGreatDoor
open Go Go.RowKit Go.Lib
set_option linter.unusedSimpArgs false
set_option linter.unusedVariables false

theorem cmpSc_eq (x y : Sc) : cmpSc x y = if x.kind < y.kind then -1 else if y.kind < x.kind then 1 else if x.num < y.num then -1 else if y.num < x.num then 1 else cmpL x.str.data.toList y.str.data.toList := by
  unfold cmpSc lex2 keySc cmpI
  simp only
  by_cases h1 : x.kind < y.kind
  · simp [h1, show ¬ (x.kind = y.kind) by omega]
  · by_cases h2 : y.kind < x.kind
    · simp [h1, h2]
    · by_cases h3 : x.num < y.num
      · simp [h1, h2, h3]
      · by_cases h4 : y.num < x.num
        · simp [h1, h2, h3, h4]
        · simp [h1, h2, h3, h4]

set_option maxRecDepth 100000 in
set_option maxHeartbeats 1000000 in
theorem refCompare_any (x y : Sc) (w : World) :
    Calls Tryz.prog 19 #[scV x, scV y] w fun e w' => e = .returned (.int .i64 (cmpSc x y)) ∧ Below w.heap.size w w' := by
  rw [cmpSc_eq]
  obtain ⟨k1, n1, s1⟩ := x
  obtain ⟨k2, n2, s2⟩ := y
  unfold scV
  have hl1 := less_L s1.data.toList s2.data.toList
  have hl2 := less_L s2.data.toList s1.data.toList
  have hsym := good_L.sym s1.data.toList s2.data.toList
  have hr := good_L.rng s1.data.toList s2.data.toList
  simp only
  by_cases h1 : k1 < k2
  · rw [if_pos h1]
    go_enter Tryz.func19, Tryz.ntmps19
    go_wp2
    go_ret
    exact ⟨rfl, by repeat (first | exact Below.refl _ _ | refine Below.alloc ?_ (by simp) _)⟩
  rw [if_neg h1]
  by_cases h2 : k2 < k1
  · rw [if_pos h2]
    go_enter Tryz.func19, Tryz.ntmps19
    go_wp2
    go_ret
    exact ⟨rfl, by repeat (first | exact Below.refl _ _ | refine Below.alloc ?_ (by simp) _)⟩
  rw [if_neg h2]
  by_cases h3 : n1 < n2
  · rw [if_pos h3]
    go_enter Tryz.func19, Tryz.ntmps19
    go_wp2
    go_ret
    exact ⟨rfl, by repeat (first | exact Below.refl _ _ | refine Below.alloc ?_ (by simp) _)⟩
  rw [if_neg h3]
  by_cases h4 : n2 < n1
  · rw [if_pos h4]
    go_enter Tryz.func19, Tryz.ntmps19
    go_wp2
    go_ret
    exact ⟨rfl, by repeat (first | exact Below.refl _ _ | refine Below.alloc ?_ (by simp) _)⟩
  rw [if_neg h4]
  have heq := good_L.eq s1.data.toList s2.data.toList
  obtain ⟨z, hz⟩ : ∃ z, cmpL s1.data.toList s2.data.toList = z := ⟨_, rfl⟩
  rw [hz] at hl1 hsym hr heq ⊢
  rw [hsym] at hl2
  clear hsym hz
  rw [← Lib.toList_data s1, ← Lib.toList_data s2] at hl1 hl2 heq
  rcases hr with rfl | rfl | rfl
  · have e1 : Op.bytesLess s1.toList s2.toList = true := hl1
    have e2 : Op.bytesLess s2.toList s1.toList = false := hl2
    have e3 : (s1.toList == s2.toList) = false := by rw [beq_eq_false_iff_ne]; intro h; exact absurd (heq.2 h) (by decide)
    have e4 : (s2.toList == s1.toList) = false := by rw [beq_eq_false_iff_ne]; intro h; exact absurd (heq.2 h.symm) (by decide)
    clear hl1 hl2 heq
    go_enter Tryz.func19, Tryz.ntmps19
    go_wp2
    go_ret
    exact ⟨rfl, by repeat (first | exact Below.refl _ _ | refine Below.alloc ?_ (by simp) _)⟩
  · have e1 : Op.bytesLess s1.toList s2.toList = false := hl1
    have e2 : Op.bytesLess s2.toList s1.toList = false := hl2
    have e3 : (s1.toList == s2.toList) = true := by rw [beq_iff_eq]; exact heq.1 rfl
    have e4 : (s2.toList == s1.toList) = true := by rw [beq_iff_eq]; exact (heq.1 rfl).symm
    clear hl1 hl2 heq
    go_enter Tryz.func19, Tryz.ntmps19
    go_wp2
    go_ret
    exact ⟨rfl, by repeat (first | exact Below.refl _ _ | refine Below.alloc ?_ (by simp) _)⟩
  · have e1 : Op.bytesLess s1.toList s2.toList = false := hl1
    have e2 : Op.bytesLess s2.toList s1.toList = true := hl2
    have e3 : (s1.toList == s2.toList) = false := by rw [beq_eq_false_iff_ne]; intro h; exact absurd (heq.2 h) (by decide)
    have e4 : (s2.toList == s1.toList) = false := by rw [beq_eq_false_iff_ne]; intro h; exact absurd (heq.2 h.symm) (by decide)
    clear hl1 hl2 heq
    go_enter Tryz.func19, Tryz.ntmps19
    go_wp2
    go_ret
    exact ⟨rfl, by repeat (first | exact Below.refl _ _ | refine Below.alloc ?_ (by simp) _)⟩

/-- The document's digits. -/
def digL (n : Int) : List UInt8 := sgOf n ++ decDigits n.natAbs
theorem digL_itoa (n : Int) : digL n = itoa n := (itoa_sg n).symm
end Go.Proofs.YtkdhaipjfkalfaaGreatDoor
