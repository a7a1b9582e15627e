import Derived.Test.YtghelkkndkbejaaGreatDoorMf
/- What is proved: a name behind its sign is one piece; what is no name is none (TokNames' plain law). -/
namespace Go.Proofs.YtghelkkndkbejaaGreatDoor
open Go Go.RowKit Go.Lib
set_option linter.unusedSimpArgs false
set_option linter.unusedVariables false

theorem signB_bd {c : UInt8} (h : signB c = true) : 45 ≤ c.toNat ∧ c.toNat ≤ 122 := by
  unfold signB isDigB at h
  simp only [Bool.or_eq_true, Bool.and_eq_true, decide_eq_true_eq, beq_iff_eq] at h
  omega
theorem name_valid : ∀ l : List UInt8, l.all signB = true → validD l = true
  | [], _ => rfl
  | c :: r, h => by
    simp only [List.all_cons, Bool.and_eq_true] at h
    rw [validD_cons c r (by have := signB_bd h.1; omega)]
    exact name_valid r h.2
theorem name_plain : ∀ l : List UInt8, l.all signB = true → (runes l).all plainRune = true
  | [], _ => rfl
  | c :: r, h => by
    simp only [List.all_cons, Bool.and_eq_true] at h
    have hb := signB_bd h.1
    rw [runes_ascii c r (by omega), List.all_cons, name_plain r h.2, Bool.and_true]
    unfold plainRune plainN
    simp
    omega
def markC (c : UInt8) : Prop := c = 38 ∨ c = 42
theorem mark_one {c : UInt8} (hc : markC c) (s : List UInt8) : oneT (c :: s) 0 0 = namedT (c :: s) 0 0 := by
  rcases hc with rfl | rfl <;> rfl
theorem mark_32 {c : UInt8} (hc : markC c) (s : List UInt8) : isB (c :: s) 0 [32] = false ∧ noteB (c :: s) 0 = false := by
  rcases hc with rfl | rfl <;> constructor <;> rfl
theorem mark_42 {c : UInt8} (hc : markC c) (s : List UInt8) : isB (c :: s) 0 [42] = decide (c = 42) := by
  rcases hc with rfl | rfl <;> rfl
theorem mark_right {c : UInt8} (hc : markC c) (s : List UInt8) : validD (c :: s) = validD s ∧ (runes (c :: s)).all plainRune = (runes s).all plainRune := by
  have h : c.toNat < 128 := by rcases hc with rfl | rfl <;> decide
  have h1 : plainRune c.toNat = true := by rcases hc with rfl | rfl <;> rfl
  exact ⟨validD_cons c s h, by rw [runes_ascii c s h, List.all_cons, h1, Bool.true_and]⟩
theorem take_all : ∀ {l : List UInt8}, l.all signB = true → l.takeWhile signB = l
  | [], _ => rfl
  | c :: r, h => by
    simp only [List.all_cons, Bool.and_eq_true] at h
    rw [List.takeWhile_cons, if_pos h.1, take_all h.2]
theorem names_yes {c : UInt8} (hc : markC c) {s : List UInt8} (h : nameB s = true) : readT (c :: s) = ([⟨if c = 42 then 4 else 3, s, 0⟩], 0, 0) := by
  have hs : s.all signB = true := by unfold nameB at h; simp only [Bool.and_eq_true] at h; exact h.1
  obtain ⟨hv, hp⟩ := mark_right hc s
  rw [name_valid s hs] at hv
  rw [name_plain s hs] at hp
  have hn : nameOf (c :: s) 0 = s := by unfold nameOf; exact take_all hs
  have ho : oneT (c :: s) 0 0 = .ok (if c = 42 then 4 else 3) s (0 + 1 + s.length) 0 := by
    rw [mark_one hc]
    unfold namedT
    rw [hn, h, mark_42 hc, show closedB (c :: s) (0 + 1 + s.length) 0 = true by unfold closedB blankB; simp; omega]
    by_cases h42 : c = 42 <;> simp [h42]
  unfold readT
  rw [if_pos hv, if_pos hp, toksT_ok hv (by simp) (mark_32 hc s).1 (mark_32 hc s).2 ho, toksT_end _ (by simp; omega)]
  rfl
theorem names_no {c : UInt8} (hc : markC c) {s : List UInt8} (h : nameB s = false) : (∃ p e, readT (c :: s) = ([], p, e) ∧ e ≠ 0) ∨ ∃ t r, readT (c :: s) = (t :: r, 0, 0) ∧ t.str ≠ s := by
  rcases readT_cases (c :: s) with ⟨e, p, hr, he, _⟩ | ⟨ts, hr, _⟩
  · exact .inl ⟨p, e, hr, he⟩
  · refine .inr ?_
    have hv : validD (c :: s) = true := by
      cases hv : validD (c :: s) with
      | true => rfl
      | false => have := (readT_err (c :: s)).1.2 hv; rw [hr] at this; cases this
    have hp : (runes (c :: s)).all plainRune = true := by
      cases hp : (runes (c :: s)).all plainRune with
      | true => rfl
      | false => have := (readT_err (c :: s)).2.2 ⟨hv, hp⟩; rw [hr] at this; cases this
    have hr2 := hr
    unfold readT at hr2
    rw [if_pos hv, if_pos hp] at hr2
    by_cases hcond : (nameB (nameOf (c :: s) 0) && closedB (c :: s) (0 + 1 + (nameOf (c :: s) 0).length) 0) = true
    · have ho : oneT (c :: s) 0 0 = .ok (if isB (c :: s) 0 [42] then 4 else 3) (nameOf (c :: s) 0) (0 + 1 + (nameOf (c :: s) 0).length) 0 := by
        rw [mark_one hc]; unfold namedT; rw [if_pos hcond]
      have hto := toksT_ok hv (by simp) (mark_32 hc s).1 (mark_32 hc s).2 ho
      rw [hto, fold_bad] at hr2
      split at hr2
      · rename_i e p hbad
        rw [← hto] at hbad
        have := (badOf_is hv _ _ _ _ _ hbad).1
        simp only [Prod.mk.injEq] at hr2
        omega
      · simp only [List.map_cons, List.nil_append, Prod.mk.injEq, and_true] at hr2
        refine ⟨_, _, by rw [hr, ← hr2], fun e => ?_⟩
        simp only [tkOf] at e
        rw [e] at hcond
        rw [h] at hcond
        simp at hcond
    · have ho : oneT (c :: s) 0 0 = .bad 90 := by
        rw [mark_one hc]; unfold namedT; rw [if_neg hcond]
      rw [toksT_bad hv (by simp) (mark_32 hc s).1 (mark_32 hc s).2 ho] at hr2
      simp [foldT] at hr2
end Go.Proofs.YtghelkkndkbejaaGreatDoor
