/- What is proved: the reference's May is the program's. -/
import Derived.Test.YtccjfoldjbmnfaaDoorPa
namespace Go.Proofs.YtccjfoldjbmnfaaDoor
open Go Go.RowKit Go.Lib
set_option linter.unusedSimpArgs false
set_option linter.unusedVariables false

theorem dropWhile_le (c : UInt8) : ∀ l : List UInt8, (l.dropWhile (· == c)).length ≤ l.length
  | [] => by simp
  | b :: t => by
    rw [List.dropWhile_cons]
    split
    · have := dropWhile_le c t; simp; omega
    · simp
theorem getD_at {l : List UInt8} {i : Nat} (h : i < l.length) : l[i]? = some (l.getD i 0) := by
  rw [List.getD, List.getElem?_eq_getElem h]; rfl
theorem trim_eq (l : List UInt8) (hne : l ≠ []) : (trimB l 32 == l) = (!(l.getD 0 0 == 32) && !(l.getD (l.length - 1) 0 == 32)) := by
  have hl : 0 < l.length := List.length_pos_iff.2 hne
  by_cases h2 : l.getD (l.length - 1) 0 = 32
  · have hlt : (trimRightB l 32).length < l.length := by
      unfold trimRightB
      rw [List.length_reverse]
      have hrev : l.reverse = 32 :: l.reverse.tail := by
        cases hr : l.reverse with
        | nil => simp at hr; exact absurd hr hne
        | cons x xs =>
          have hx : l.reverse[0]? = some x := by rw [hr]; rfl
          rw [List.getElem?_reverse hl, getD_at (by omega)] at hx
          have : l.getD (l.length - 1) 0 = x := by simpa using hx
          rw [← this, h2]; rfl
      rw [hrev, List.dropWhile_cons]
      simp only [BEq.rfl, if_true]
      have := dropWhile_le 32 l.reverse.tail
      rw [List.length_tail, List.length_reverse] at this
      omega
    have hne2 : trimB l 32 ≠ l := fun h => by
      have h3 := congrArg List.length h
      unfold trimB trimLeftB at h3
      have := dropWhile_le 32 (trimRightB l 32)
      omega
    rw [h2]
    simpa using hne2
  · have hr : trimRightB l 32 = l := by
      rw [trimRightB_take l 32 l.length (Nat.le_refl _) (fun j b h1 h3 => by rw [List.getElem?_eq_none h1] at h3; cases h3) (fun b _ h3 => by
        rw [getD_at (by omega)] at h3
        have : l.getD (l.length - 1) 0 = b := by simpa using h3
        rw [← this]; exact h2), List.take_length]
    have h2b : (l.getD (l.length - 1) 0 == 32) = false := by simpa using h2
    rw [h2b]
    by_cases h1 : l.getD 0 0 = 32
    · have hne2 : trimB l 32 ≠ l := fun h => by
        have h3 := congrArg List.length h
        unfold trimB at h3
        rw [hr] at h3
        unfold trimLeftB at h3
        cases hll : l with
        | nil => exact hne hll
        | cons b t =>
          rw [hll] at h1 h3
          have hb : b = 32 := h1
          subst hb
          rw [List.dropWhile_cons] at h3
          simp only [BEq.rfl, if_true] at h3
          have := dropWhile_le 32 t
          simp at h3
          omega
      rw [h1]
      simpa using hne2
    · have : trimB l 32 = l := by
        unfold trimB
        rw [hr, trimLeftB_drop l 32 0 (by omega) (fun j b h _ => by omega) (fun b h3 => by
          rw [getD_at hl] at h3
          have : l.getD 0 0 = b := by simpa using h3
          rw [← this]; exact h1)]
        rfl
      rw [this]
      have h1b : (l.getD 0 0 == 32) = false := by simpa using h1
      rw [h1b]
      simp
theorem index_among (l : List UInt8) (c : UInt8) : decide (0 ≤ Lib.indexByte l c) = amongB l c := by
  unfold amongB
  induction l with
  | nil => rfl
  | cons b t ih =>
    unfold Lib.indexByte
    have hge := Lib.indexByte_ge t c
    rw [List.contains_cons, ← ih]
    by_cases h : b = c
    · subst h; simp
    · have h1 : (b == c) = false := by simpa using h
      have h2 : (c == b) = false := by simpa using fun e => h e.symm
      rw [h1, h2]
      simp only [Bool.false_eq_true, if_false, Bool.false_or]
      by_cases h3 : Lib.indexByte t c = -1
      · simp [h3]
      · have h4 : (Lib.indexByte t c == -1) = false := by simpa using h3
        rw [h4]
        simp only [Bool.false_eq_true, if_false]
        rw [Bool.eq_iff_iff]
        simp
        omega
theorem mem_among (c : UInt8) : memB [45, 63, 58] (c.toNat : Int) = amongB [45, 63, 58] c := by
  rw [Bool.eq_iff_iff]
  unfold memB amongB
  simp [← UInt8.toNat_inj, List.contains_cons]
  omega
theorem plainR_eq (l : List UInt8) : plainR l = (validD l && (runes l).all plainRune) := by
  unfold plainR signsP runesZ
  cases validD l with
  | true => simp [List.all_map, Function.comp_def]; rfl
  | false => simp
theorem headD_eq (l : List UInt8) : l.headD 0 = l.getD 0 0 := by cases l <;> rfl
theorem dash_eq (l : List UInt8) (hne : l ≠ []) : (!dashR l) = (!(memB [45, 63, 58] ((l.headD 0).toNat : Int)) || (!l.tail.isEmpty && !(l.tail.headD 0 == 32))) := by
  unfold dashR
  rw [mem_among, headD_eq]
  cases l with
  | nil => exact absurd rfl hne
  | cons b t =>
    cases t with
    | nil => simp
    | cons c t' => simp

theorem mayR_eq (l : List UInt8) (flow : Bool) : mayR l flow = mayP l flow := by
  cases hl : l with
  | nil => rfl
  | cons b t =>
    rw [← hl]
    have hne : l ≠ [] := by rw [hl]; simp
    have he : l.isEmpty = false := by rw [hl]; rfl
    unfold mayR mayP headR begunOK longOK
    rw [trim_eq l hne, index_among, okR_B, plainR_eq, dash_eq l hne, he, headD_eq]
    cases hv : validD l with
    | false => simp
    | true =>
      rw [long_eq flow l.length l 0 0 (Nat.le_refl _) hv rfl]
      cases (runes l).all plainRune <;> cases (l.getD 0 0 == 32) <;> cases (l.getD (l.length - 1) 0 == 32) <;> cases amongB barredL (l.getD 0 0) <;> cases okB flow 0 l <;> simp
end Go.Proofs.YtccjfoldjbmnfaaDoor
