import Derived.Test.YtghelkkndkbejaaGreatDoorMf
/- What is proved: a text that may stand plain is one piece, alone, and in a list (TokPlains' plain law); no program stands in it. -/
namespace Go.Proofs.YtghelkkndkbejaaGreatDoor
open Go Go.RowKit Go.Lib
set_option linter.unusedSimpArgs false
set_option linter.unusedVariables false

theorem may_parts {l : List UInt8} {flow : Bool} (h : mayP l flow = true) : 0 < l.length ∧ validD l = true ∧ (runes l).all plainRune = true ∧ l.getD 0 0 ≠ 32 ∧ l.getD (l.length - 1) 0 ≠ 32 ∧
    amongB barredL (l.getD 0 0) = false ∧ dashR l = false ∧ ∀ i, i < l.length → badR l flow i = false := by
  rw [← mayR_eq] at h
  unfold mayR headR at h
  rw [plainR_eq] at h
  simp only [Bool.and_eq_true, Bool.not_eq_true', List.isEmpty_eq_false_iff, beq_eq_false_iff_ne] at h
  obtain ⟨⟨h1, ⟨h2, h3⟩, h4, h5, h6⟩, h7, h8⟩ := h
  refine ⟨List.length_pos_iff.2 h1, h2, h3, h4, h5, h6, h7, fun i hi => ?_⟩
  unfold okR at h8
  rw [List.all_eq_true] at h8
  have := h8 i (List.mem_range.2 hi)
  simpa using this
theorem isB_in {l m : List UInt8} {i : Nat} (h : i < l.length) (bs : List UInt8) : isB (l ++ m) i bs = amongB bs (l.getD i 0) := by
  unfold isB
  rw [getD_left _ _ _ h, List.length_append, decide_eq_true (by omega), Bool.true_and]
theorem among_is (a c : UInt8) : amongB [a] c = (c == a) := by
  unfold amongB; rw [Bool.eq_iff_iff]; simp
/-- What may stand behind a plain text, at a depth. -/
def Behind (m : List UInt8) (d : Nat) : Prop := m = [] ∨ (0 < d ∧ ∃ c r, m = c :: r ∧ amongB flowL c = true)
theorem closed_next {l m : List UInt8} {d i : Nat} (h : mayP l (decide (0 < d)) = true) (hi : i < l.length) (hc : l.getD i 0 = 58) : closedB (l ++ m) (i + 1) d = false ∧ i + 1 < l.length := by
  obtain ⟨_, _, _, _, _, _, _, hb⟩ := may_parts h
  have h1 := hb i hi
  unfold badR bad1 at h1
  rw [hc] at h1
  simp only [beq_self_eq_true, Bool.true_and, Bool.or_eq_false_iff, beq_eq_false_iff_ne] at h1
  have h2 : i + 1 < l.length := by have := h1.1.1.1; omega
  have h3 : l.getD (i + 1) 0 ≠ 32 := h1.1.1.2
  have h4 := hb (i + 1) h2
  unfold badR at h4
  simp only [Bool.or_eq_false_iff] at h4
  refine ⟨?_, h2⟩
  unfold closedB blankB
  rw [isB_in h2, isB_in h2, among_is, List.length_append, decide_eq_false (by omega), Bool.false_or, h4.2, Bool.or_false]
  simpa using h3
theorem endB_in {l m : List UInt8} {d i : Nat} (h : mayP l (decide (0 < d)) = true) (hi : i < l.length) : endB (l ++ m) i d = false := by
  obtain ⟨hp, _, _, _, _, h6, _, hb⟩ := may_parts h
  have h1 := hb i hi
  unfold badR bad1 bad2 at h1
  simp only [Bool.or_eq_false_iff] at h1
  unfold endB noteB
  rw [isB_in hi, isB_in hi, isB_in hi, among_is, among_is, List.length_append, decide_eq_false (by omega), h1.2, Bool.false_or, Bool.or_false]
  by_cases h35 : l.getD i 0 = 35
  · have h58 : (l.getD i 0 == 58) = false := by rw [h35]; rfl
    rw [h58, h35]
    have h2 := h1.1.2
    rw [h35] at h2
    cases i with
    | zero => rw [h35] at h6; exact absurd h6 (by decide)
    | succ k =>
      rw [show k + 1 - 1 = k by omega] at h2 ⊢
      rw [isB_in (by omega), among_is]
      simpa using h2
  · have h35' : (l.getD i 0 == 35) = false := by simpa using h35
    rw [h35']
    by_cases h58 : l.getD i 0 = 58
    · rw [(closed_next (m := m) h hi h58).1]; simp
    · have : (l.getD i 0 == 58) = false := by simpa using h58
      rw [this]; rfl
theorem endB_at {l m : List UInt8} {d : Nat} (h : Behind m d) : endB (l ++ m) l.length d = true := by
  rcases h with rfl | ⟨h1, c, r, rfl, h2⟩
  · unfold endB; simp
  · unfold endB
    have : isB (l ++ c :: r) l.length flowL = true := by
      have := isB_shift l (c :: r) 0 flowL
      rw [Nat.add_zero] at this
      rw [this]
      unfold isB
      simpa using h2
    rw [this, decide_eq_true h1]; simp
theorem endB_push (b l : List UInt8) (i d : Nat) (h : i ≠ 0 ∨ isB l 0 [35] = false) : endB (b ++ l) (b.length + i) d = endB l i d := by
  unfold endB
  rw [isB_shift, isB_shift, Nat.add_assoc, closedB_shift, List.length_append]
  have h1 : noteB (b ++ l) (b.length + i) = noteB l i := by
    unfold noteB
    rw [isB_shift]
    cases i with
    | zero =>
      have : isB l 0 [35] = false := by rcases h with h | h; exact absurd rfl h; exact h
      rw [this]; rfl
    | succ k =>
      rw [show b.length + (k + 1) - 1 = b.length + k by omega, isB_shift]
      rw [show (b.length + (k + 1) == 0) = false by rw [beq_eq_false_iff_ne]; omega, show (k + 1 == 0) = false by rw [beq_eq_false_iff_ne]; omega]
      rfl
  rw [h1]
  congr 1
  rw [Bool.eq_iff_iff]; simp
theorem not_35 {l : List UInt8} {m : List UInt8} {flow : Bool} (h : mayP l flow = true) : isB (l ++ m) 0 [35] = false := by
  obtain ⟨hp, _, _, _, _, h6, _, _⟩ := may_parts h
  rw [isB_in hp, among_is]
  rw [beq_eq_false_iff_ne]
  intro e
  rw [e] at h6
  exact absurd h6 (by decide)
theorem endP_in {b l m : List UInt8} {d : Nat} (h : mayP l (decide (0 < d)) = true) (hm : Behind m d) : ∀ (k i : Nat), i + k = l.length → endP (b ++ (l ++ m)) (b.length + i) d = b.length + l.length
  | 0, i, e => by
    obtain rfl : i = l.length := by omega
    exact endP_end (by rw [endB_push _ _ _ _ (.inr (not_35 h))]; exact endB_at hm)
  | k + 1, i, e => by
    rw [endP_step (by rw [endB_push _ _ _ _ (.inr (not_35 h))]; exact endB_in h (by omega)), Nat.add_assoc]
    exact endP_in h hm k (i + 1) (by omega)
theorem trimR_keep {l : List UInt8} (hp : 0 < l.length) (h : l.getD (l.length - 1) 0 ≠ 32) : trimR l = l := by
  obtain ⟨m, c, rfl⟩ : ∃ m c, l = m ++ [c] := ⟨l.dropLast, l.getLast (List.length_pos_iff.1 hp), (List.dropLast_concat_getLast (List.length_pos_iff.1 hp)).symm⟩
  have hc : c ≠ 32 := by
    intro e
    apply h
    rw [List.length_append, show m.length + [c].length - 1 = m.length + 0 by simp, getD_right, e]; rfl
  unfold trimR
  rw [List.reverse_append, List.reverse_singleton, List.singleton_append, List.dropWhile_cons, if_neg (by simpa using hc)]
  simp
theorem plainT_in {b l m : List UInt8} {d : Nat} (h : mayP l (decide (0 < d)) = true) (hm : Behind m d) : plainT (b ++ (l ++ m)) b.length d = .ok 1 l (b.length + l.length) d := by
  obtain ⟨hp, _, _, _, h5, _, _, _⟩ := may_parts h
  have he : endP (b ++ (l ++ m)) b.length d = b.length + l.length := endP_in h hm l.length 0 (by omega)
  unfold plainT
  have ht : trimR (((b ++ (l ++ m)).take (b.length + l.length)).drop b.length) = l := by
    rw [List.drop_take, show b.length + l.length - b.length = l.length by omega, List.drop_left, List.take_left, trimR_keep hp h5]
  rw [he, ht, if_pos h]
/-- A text that may stand plain is one piece, wherever it stands. -/
theorem oneT_plain {b l m : List UInt8} {d : Nat} (h : mayP l (decide (0 < d)) = true) (hm : Behind m d) :
    oneT (b ++ (l ++ m)) b.length d = .ok 1 l (b.length + l.length) d ∧ isB (b ++ (l ++ m)) b.length [32] = false ∧ noteB (b ++ (l ++ m)) b.length = false := by
  obtain ⟨hp, _, _, h4, h5, h6, h7, _⟩ := may_parts h
  have hc : (b ++ (l ++ m)).getD b.length 0 = l.getD 0 0 := by
    have := getD_right b (l ++ m) 0
    rw [Nat.add_zero] at this
    rw [this, getD_left _ _ _ hp]
  have h35 : isB (b ++ (l ++ m)) b.length [35] = false := by
    have := isB_shift b (l ++ m) 0 [35]
    rw [Nat.add_zero] at this
    rw [this, not_35 h]
  refine ⟨?_, ?_, by unfold noteB; rw [h35]; rfl⟩
  · have hpl := plainT_in (b := b) h hm
    unfold oneT oneC
    rw [hc]
    have hne : ∀ x : UInt8, amongB barredL x = true → l.getD 0 0 ≠ x := fun x hx e => by rw [e, hx] at h6; cases h6
    rw [if_neg (fun e => by rcases e with e | e <;> exact hne _ (by rfl) e), if_neg (fun e => by rcases e with e | e <;> exact hne _ (by rfl) e)]
    split
    · rename_i h45
      unfold dashR at h7
      rw [h45] at h7
      have h8 : (l.length == 1 || l.getD 1 0 == 32) = false := by simpa [amongB] using h7
      simp only [Bool.or_eq_false_iff, beq_eq_false_iff_ne] at h8
      have h9 : blankB (b ++ (l ++ m)) (b.length + 1) = false := by
        rw [blankB_shift]
        unfold blankB
        rw [isB_in (by omega), among_is, List.length_append, decide_eq_false (by omega), Bool.false_or, beq_eq_false_iff_ne]
        exact h8.2
      unfold dashT
      rw [h9]
      exact hpl
    · split
      · rename_i h58
        unfold colonT
        rw [closedB_shift, (closed_next (m := m) h hp h58).1]
        exact hpl
      · rw [if_neg (fun e => by rcases e with e | e <;> exact hne _ (by rfl) e), if_neg (fun e => by rcases e with e | e | e <;> exact hne _ (by rfl) e)]
        exact hpl
  · have := isB_shift b (l ++ m) 0 [32]
    rw [Nat.add_zero] at this
    rw [this, isB_in hp, among_is, beq_eq_false_iff_ne]
    exact h4
theorem plains_one {l : List UInt8} (h : mayP l false = true) : readT l = ([⟨1, l, 0⟩], 0, 0) := by
  obtain ⟨hp, hv, hr, _⟩ := may_parts h
  obtain ⟨h1, h2, h3⟩ := oneT_plain (b := []) (l := l) (m := []) (d := 0) h (.inl rfl)
  simp only [List.nil_append, List.append_nil, List.length_nil, Nat.zero_add] at h1 h2 h3
  unfold readT
  rw [if_pos hv, if_pos hr, toksT_ok hv hp h2 h3 h1, toksT_end _ (Nat.le_refl _)]
  rfl
/-- Pieces in brackets. -/
theorem open_T {c : UInt8} {d : Nat} (r : List UInt8) (hv : validD (91 :: r) = true) : toksT (91 :: r) 0 0 = .tok 8 [] 0 :: toksT (91 :: r) 1 1 :=
  toksT_ok hv (by simp) (by rfl) (by rfl) (by rfl)
theorem close_T (b : List UInt8) (hv : validD (b ++ [93]) = true) : toksT (b ++ [93]) b.length 1 = [.tok 9 [] b.length] := by
  have hs := fun bs => isB_shift b [93] 0 bs
  simp only [Nat.add_zero] at hs
  have hg : (b ++ [93]).getD b.length 0 = 93 := by have := getD_right b [93] 0; rwa [Nat.add_zero] at this
  have ho : oneT (b ++ [93]) b.length 1 = .ok 9 [] (b.length + 1) 0 := by
    unfold oneT
    rw [hg]
    rfl
  rw [toksT_ok hv (by simp) (by rw [hs]; rfl) (by unfold noteB; rw [hs]; rfl) ho, toksT_end _ (by simp)]
theorem plains_list {l : List UInt8} (h : mayP l true = true) : readT (91 :: (l ++ [93])) = ([⟨8, [], 0⟩, ⟨1, l, 1⟩, ⟨9, [], 1 + l.length⟩], 0, 0) := by
  obtain ⟨hp, hv, hr, _⟩ := may_parts h
  have hv2 : validD (91 :: (l ++ [93])) = true := by rw [validD_cons _ _ (by decide), valid_app _ l _ (Nat.le_refl _) hv]; rfl
  have hr2 : (runes (91 :: (l ++ [93]))).all plainRune = true := by
    rw [runes_ascii _ _ (by decide), runes_app _ l _ (Nat.le_refl _) hv, List.all_cons, List.all_append, hr]; rfl
  obtain ⟨h1, h2, h3⟩ := oneT_plain (b := [91]) (l := l) (m := [93]) (d := 1) h (.inr ⟨by omega, 93, [], rfl, rfl⟩)
  have h4 := close_T (91 :: l) hv2
  have h5 := toksT_ok hv2 (p := 1) (d := 1) (by simp) h2 h3 h1
  unfold readT
  rw [if_pos hv2, if_pos hr2, open_T (c := 0) (d := 0) _ hv2, h5, show ([91] : List UInt8).length + l.length = (91 :: l).length by simp; omega]
  have h6 : toksT (91 :: (l ++ [93])) (91 :: l).length 1 = [.tok 9 [] (91 :: l).length] := h4
  rw [h6]
  simp [foldT, Nat.add_comm]
theorem okAll_mono2 (xs : List (Nat × Nat × Nat)) (h : okAll true xs = true) : okAll false xs = true := by
  unfold okAll at *
  rw [List.all_eq_true] at *
  intro x hx
  have := h x hx
  unfold badAt at *
  simp at this ⊢
  exact ⟨⟨this.1.1.1, this.1.2⟩, this.2⟩
theorem may_mono2 (l : List UInt8) (h : mayP l true = true) : mayP l false = true := by
  unfold mayP longOK at *
  simp only [Bool.and_eq_true] at *
  exact ⟨h.1, okAll_mono2 _ h.2⟩
end Go.Proofs.YtghelkkndkbejaaGreatDoor
