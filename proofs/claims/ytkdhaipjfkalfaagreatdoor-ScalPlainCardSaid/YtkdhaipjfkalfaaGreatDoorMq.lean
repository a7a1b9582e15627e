import Derived.Test.YtkdhaipjfkalfaaGreatDoorMf
/- What is proved: a text that may stand plain is one piece, alone, and in a list (TokPlains' plain law); no program stands in it. -/
namespace Go.Proofs.YtkdhaipjfkalfaaGreatDoor
open Go Go.RowKit Go.Lib
set_option linter.unusedSimpArgs false
set_option linter.unusedVariables false

theorem may_parts {l : List UInt8} {flow : Bool} (h : mayP l flow = true) : 0 < l.length ∧ validD l = true ∧ (runes l).all plainRune = true ∧ l.getD 0 0 ≠ 32 ∧ l.getD (l.length - 1) 0 ≠ 32 ∧
    amongB barredL (l.getD 0 0) = false ∧ dashR l = false ∧ ∀ i, i < l.length → badR l flow i = false := by
  rw [← mayR_eq] at h
  unfold mayR headR at h
  rw [plainR_eq] at h
  simp only [Bool.and_eq_true, Bool.not_eq_true', List.isEmpty_eq_false_iff, beq_eq_false_iff_ne] at h
  obtain ⟨⟨h1, ⟨h2, h3⟩, h4, h5, h6⟩, h7, h8⟩ := h
  refine ⟨List.length_pos_iff.2 h1, h2, h3, h4, h5, h6, h7, fun i hi => ?_⟩
  unfold okR at h8
  rw [List.all_eq_true] at h8
  have := h8 i (List.mem_range.2 hi)
  simpa using this
theorem isB_in {l m : List UInt8} {i : Nat} (h : i < l.length) (bs : List UInt8) : isB (l ++ m) i bs = amongB bs (l.getD i 0) := by
  unfold isB
  rw [getD_left _ _ _ h, List.length_append, decide_eq_true (by omega), Bool.true_and]
theorem among_is (a c : UInt8) : amongB [a] c = (c == a) := by
  unfold amongB; rw [Bool.eq_iff_iff]; simp
/-- What may stand behind a plain text, at a depth. -/
def Behind (m : List UInt8) (d : Nat) : Prop := m = [] ∨ (0 < d ∧ ∃ c r, m = c :: r ∧ amongB flowL c = true)
theorem closed_next {l m : List UInt8} {d i : Nat} (h : mayP l (decide (0 < d)) = true) (hi : i < l.length) (hc : l.getD i 0 = 58) : closedB (l ++ m) (i + 1) d = false ∧ i + 1 < l.length := by
  obtain ⟨_, _, _, _, _, _, _, hb⟩ := may_parts h
  have h1 := hb i hi
  unfold badR bad1 at h1
  rw [hc] at h1
  simp only [beq_self_eq_true, Bool.true_and, Bool.or_eq_false_iff, beq_eq_false_iff_ne] at h1
  have h2 : i + 1 < l.length := by have := h1.1.1.1; omega
  have h3 : l.getD (i + 1) 0 ≠ 32 := h1.1.1.2
  have h4 := hb (i + 1) h2
  unfold badR at h4
  simp only [Bool.or_eq_false_iff] at h4
  refine ⟨?_, h2⟩
  unfold closedB blankB
  rw [isB_in h2, isB_in h2, among_is, List.length_append, decide_eq_false (by omega), Bool.false_or, h4.2, Bool.or_false]
  simpa using h3
theorem endB_in {l m : List UInt8} {d i : Nat} (h : mayP l (decide (0 < d)) = true) (hi : i < l.length) : endB (l ++ m) i d = false := by
  obtain ⟨hp, _, _, _, _, h6, _, hb⟩ := may_parts h
  have h1 := hb i hi
  unfold badR bad1 bad2 at h1
  simp only [Bool.or_eq_false_iff] at h1
  unfold endB noteB
  rw [isB_in hi, isB_in hi, isB_in hi, among_is, among_is, List.length_append, decide_eq_false (by omega), h1.2, Bool.false_or, Bool.or_false]
  by_cases h35 : l.getD i 0 = 35
  · have h58 : (l.getD i 0 == 58) = false := by rw [h35]; rfl
    rw [h58, h35]
    have h2 := h1.1.2
    rw [h35] at h2
    cases i with
    | zero => rw [h35] at h6; exact absurd h6 (by decide)
    | succ k =>
      rw [show k + 1 - 1 = k by omega] at h2 ⊢
      rw [isB_in (by omega), among_is]
      simpa using h2
  · have h35' : (l.getD i 0 == 35) = false := by simpa using h35
    rw [h35']
    by_cases h58 : l.getD i 0 = 58
    · rw [(closed_next (m := m) h hi h58).1]; simp
    · have : (l.getD i 0 == 58) = false := by simpa using h58
      rw [this]; rfl
theorem endB_at {l m : List UInt8} {d : Nat} (h : Behind m d) : endB (l ++ m) l.length d = true := by
  rcases h with rfl | ⟨h1, c, r, rfl, h2⟩
  · unfold endB; simp
  · unfold endB
    have : isB (l ++ c :: r) l.length flowL = true := by
      have := isB_shift l (c :: r) 0 flowL
      rw [Nat.add_zero] at this
      rw [this]
      unfold isB
      simpa using h2
    rw [this, decide_eq_true h1]; simp
theorem endB_push (b l : List UInt8) (i d : Nat) (h : i ≠ 0 ∨ isB l 0 [35] = false) : endB (b ++ l) (b.length + i) d = endB l i d := by
  unfold endB
  rw [isB_shift, isB_shift, Nat.add_assoc, closedB_shift, List.length_append]
  have h1 : noteB (b ++ l) (b.length + i) = noteB l i := by
    unfold noteB
    rw [isB_shift]
    cases i with
    | zero =>
      have : isB l 0 [35] = false := by rcases h with h | h; exact absurd rfl h; exact h
      rw [this]; rfl
    | succ k =>
      rw [show b.length + (k + 1) - 1 = b.length + k by omega, isB_shift]
      rw [show (b.length + (k + 1) == 0) = false by rw [beq_eq_false_iff_ne]; omega, show (k + 1 == 0) = false by rw [beq_eq_false_iff_ne]; omega]
      rfl
  rw [h1]
  congr 1
  rw [Bool.eq_iff_iff]; simp
theorem not_35 {l : List UInt8} {m : List UInt8} {flow : Bool} (h : mayP l flow = true) : isB (l ++ m) 0 [35] = false := by
  obtain ⟨hp, _, _, _, _, h6, _, _⟩ := may_parts h
  rw [isB_in hp, among_is]
  rw [beq_eq_false_iff_ne]
  intro e
  rw [e] at h6
  exact absurd h6 (by decide)
theorem endP_in {b l m : List UInt8} {d : Nat} (h : mayP l (decide (0 < d)) = true) (hm : Behind m d) : ∀ (k i : Nat), i + k = l.length → endP (b ++ (l ++ m)) (b.length + i) d = b.length + l.length
  | 0, i, e => by
    obtain rfl : i = l.length := by omega
    exact endP_end (by rw [endB_push _ _ _ _ (.inr (not_35 h))]; exact endB_at hm)
  | k + 1, i, e => by
    rw [endP_step (by rw [endB_push _ _ _ _ (.inr (not_35 h))]; exact endB_in h (by omega)), Nat.add_assoc]
    exact endP_in h hm k (i + 1) (by omega)
theorem trimR_keep {l : List UInt8} (hp : 0 < l.length) (h : l.getD (l.length - 1) 0 ≠ 32) : trimR l = l := by
  obtain ⟨m, c, rfl⟩ : ∃ m c, l = m ++ [c] := ⟨l.dropLast, l.getLast (List.length_pos_iff.1 hp), (List.dropLast_concat_getLast (List.length_pos_iff.1 hp)).symm⟩
  have hc : c ≠ 32 := by
    intro e
    apply h
    rw [List.length_append, show m.length + [c].length - 1 = m.length + 0 by simp, getD_right, e]; rfl
  unfold trimR
  rw [List.reverse_append, List.reverse_singleton, List.singleton_append, List.dropWhile_cons, if_neg (by simpa using hc)]
  simp
theorem plainT_in {b l m : List UInt8} {d : Nat} (h : mayP l (decide (0 < d)) = true) (hm : Behind m d) : plainT (b ++ (l ++ m)) b.length d = .ok 1 l (b.length + l.length) d := by
  obtain ⟨hp, _, _, _, h5, _, _, _⟩ := may_parts h
  have he : endP (b ++ (l ++ m)) b.length d = b.length + l.length := endP_in h hm l.length 0 (by omega)
  unfold plainT
  have ht : trimR (((b ++ (l ++ m)).take (b.length + l.length)).drop b.length) = l := by
    rw [List.drop_take, show b.length + l.length - b.length = l.length by omega, List.drop_left, List.take_left, trimR_keep hp h5]
  rw [he, ht, if_pos h]
/-- A text that may stand plain is one piece, wherever it stands. -/
theorem oneT_plain {b l m : List UInt8} {d : Nat} (h : mayP l (decide (0 < d)) = true) (hm : Behind m d) :
    oneT (b ++ (l ++ m)) b.length d = .ok 1 l (b.length + l.length) d ∧ isB (b ++ (l ++ m)) b.length [32] = false ∧ noteB (b ++ (l ++ m)) b.length = false := by
  obtain ⟨hp, _, _, h4, h5, h6, h7, _⟩ := may_parts h
  have hc : (b ++ (l ++ m)).getD b.length 0 = l.getD 0 0 := by
    have := getD_right b (l ++ m) 0
    rw [Nat.add_zero] at this
    rw [this, getD_left _ _ _ hp]
  have h35 : isB (b ++ (l ++ m)) b.length [35] = false := by
    have := isB_shift b (l ++ m) 0 [35]
    rw [Nat.add_zero] at this
    rw [this, not_35 h]
  refine ⟨?_, ?_, by unfold noteB; rw [h35]; rfl⟩
  · have hpl := plainT_in (b := b) h hm
    unfold oneT oneC
    rw [hc]
    have hne : ∀ x : UInt8, amongB barredL x = true → l.getD 0 0 ≠ x := fun x hx e => by rw [e, hx] at h6; cases h6
    rw [if_neg (fun e => by rcases e with e | e <;> exact hne _ (by rfl) e), if_neg (fun e => by rcases e with e | e <;> exact hne _ (by rfl) e)]
    split
    · rename_i h45
      unfold dashR at h7
      rw [h45] at h7
      have h8 : (l.length == 1 || l.getD 1 0 == 32) = false := by simpa [amongB] using h7
      simp only [Bool.or_eq_false_iff, beq_eq_false_iff_ne] at h8
      have h9 : blankB (b ++ (l ++ m)) (b.length + 1) = false := by
        rw [blankB_shift]
        unfold blankB
        rw [isB_in (by omega), among_is, List.length_append, decide_eq_false (by omega), Bool.false_or, beq_eq_false_iff_ne]
        exact h8.2
      unfold dashT
      rw [h9]
      exact hpl
    · split
      · rename_i h58
        unfold colonT
        rw [closedB_shift, (closed_next (m := m) h hp h58).1]
        exact hpl
      · rw [if_neg (fun e => by rcases e with e | e <;> exact hne _ (by rfl) e), if_neg (fun e => by rcases e with e | e | e <;> exact hne _ (by rfl) e)]
        exact hpl
  · have := isB_shift b (l ++ m) 0 [32]
    rw [Nat.add_zero] at this
    rw [this, isB_in hp, among_is, beq_eq_false_iff_ne]
    exact h4
theorem plains_one {l : List UInt8} (h : mayP l false = true) : readT l = ([⟨1, l, 0⟩], 0, 0) := by
  obtain ⟨hp, hv, hr, _⟩ := may_parts h
  obtain ⟨h1, h2, h3⟩ := oneT_plain (b := []) (l := l) (m := []) (d := 0) h (.inl rfl)
  simp only [List.nil_append, List.append_nil, List.length_nil, Nat.zero_add] at h1 h2 h3
  unfold readT
  rw [if_pos hv, if_pos hr, toksT_ok hv hp h2 h3 h1, toksT_end _ (Nat.le_refl _)]
  rfl
/-- Pieces in brackets. -/
theorem open_T {c : UInt8} {d : Nat} (r : List UInt8) (hv : validD (91 :: r) = true) : toksT (91 :: r) 0 0 = .tok 8 [] 0 :: toksT (91 :: r) 1 1 :=
  toksT_ok hv (by simp) (by rfl) (by rfl) (by rfl)
theorem close_T (b : List UInt8) (hv : validD (b ++ [93]) = true) : toksT (b ++ [93]) b.length 1 = [.tok 9 [] b.length] := by
  have hs := fun bs => isB_shift b [93] 0 bs
  simp only [Nat.add_zero] at hs
  have hg : (b ++ [93]).getD b.length 0 = 93 := by have := getD_right b [93] 0; rwa [Nat.add_zero] at this
  have ho : oneT (b ++ [93]) b.length 1 = .ok 9 [] (b.length + 1) 0 := by
    unfold oneT
    rw [hg]
    rfl
  rw [toksT_ok hv (by simp) (by rw [hs]; rfl) (by unfold noteB; rw [hs]; rfl) ho, toksT_end _ (by simp)]
theorem plains_list {l : List UInt8} (h : mayP l true = true) : readT (91 :: (l ++ [93])) = ([⟨8, [], 0⟩, ⟨1, l, 1⟩, ⟨9, [], 1 + l.length⟩], 0, 0) := by
  obtain ⟨hp, hv, hr, _⟩ := may_parts h
  have hv2 : validD (91 :: (l ++ [93])) = true := by rw [validD_cons _ _ (by decide), valid_app _ l _ (Nat.le_refl _) hv]; rfl
  have hr2 : (runes (91 :: (l ++ [93]))).all plainRune = true := by
    rw [runes_ascii _ _ (by decide), runes_app _ l _ (Nat.le_refl _) hv, List.all_cons, List.all_append, hr]; rfl
  obtain ⟨h1, h2, h3⟩ := oneT_plain (b := [91]) (l := l) (m := [93]) (d := 1) h (.inr ⟨by omega, 93, [], rfl, rfl⟩)
  have h4 := close_T (91 :: l) hv2
  have h5 := toksT_ok hv2 (p := 1) (d := 1) (by simp) h2 h3 h1
  unfold readT
  rw [if_pos hv2, if_pos hr2, open_T (c := 0) (d := 0) _ hv2, h5, show ([91] : List UInt8).length + l.length = (91 :: l).length by simp; omega]
  have h6 : toksT (91 :: (l ++ [93])) (91 :: l).length 1 = [.tok 9 [] (91 :: l).length] := h4
  rw [h6]
  simp [foldT, Nat.add_comm]
theorem okAll_mono2 (xs : List (Nat × Nat × Nat)) (h : okAll true xs = true) : okAll false xs = true := by
  unfold okAll at *
  rw [List.all_eq_true] at *
  intro x hx
  have := h x hx
  unfold badAt at *
  simp at this ⊢
  exact ⟨⟨this.1.1.1, this.1.2⟩, this.2⟩
theorem may_mono2 (l : List UInt8) (h : mayP l true = true) : mayP l false = true := by
  unfold mayP longOK at *
  simp only [Bool.and_eq_true] at *
  exact ⟨h.1, okAll_mono2 _ h.2⟩
end Go.Proofs.YtkdhaipjfkalfaaGreatDoor

/- What is proved: a text between quotes, and what is read of it: the text; it is one piece, alone and in a list (TokQuotes' plain law); no program stands in it. -/
namespace Go.Proofs.YtkdhaipjfkalfaaGreatDoor
open Go Go.RowKit Go.Lib
set_option linter.unusedSimpArgs false
set_option linter.unusedVariables false

def hexC (n : Nat) : UInt8 := if n < 10 then UInt8.ofNat (48 + n) else UInt8.ofNat (87 + n)
/-- A sign, between quotes. -/
def qsign (r : Nat) : List UInt8 :=
  if r = 10 then [92, 110] else if r = 9 then [92, 116] else if r = 13 then [92, 114]
  else if r = 34 ∨ r = 92 then [92, UInt8.ofNat r]
  else if plainRune r then encodeRune r else [92, 120, hexC (r / 16), hexC (r % 16)]
/-- Package quote's Quote at a right text. -/
def quoteP (l : List UInt8) : List UInt8 := 34 :: ((runes l).flatMap qsign ++ [34])

/-- A rune that may be one of a right text. -/
def SignN (r : Nat) : Prop := signP (r : Int) = true
theorem runes_sign : ∀ (n : Nat) (l : List UInt8), l.length ≤ n → validD l = true → ∀ r ∈ runes l, SignN r
  | n, [], _, _, r, h => by rw [runes_nil] at h; simp at h
  | 0, c :: t, h, _, _, _ => by simp at h
  | n + 1, c :: t, h, hv, r, hr => by
    have hne : c :: t ≠ [] := by simp
    have hb : ¬ ((decodeL (c :: t)).1 = 65533 ∧ (decodeL (c :: t)).2 = 1) := fun h => by rw [validD_step _ hne, if_pos h] at hv; cases hv
    have hw := decodeL_width (c :: t)
    rw [runes_step _ hne] at hr
    rcases List.mem_cons.1 hr with rfl | hr
    · have hvr := validRune_dec _ hne hb
      unfold Lib.validRune at hvr
      rw [decide_eq_true_eq] at hvr
      unfold SignN
      rw [signP_iff]; omega
    · exact runes_sign n _ (by rw [List.length_drop]; simp at h ⊢; omega) (valid_drop _ hne hv) r hr
theorem runes_enc : ∀ (n : Nat) (l : List UInt8), l.length ≤ n → validD l = true → (runes l).flatMap (fun r : Nat => encodeRune r) = l
  | n, [], _, _ => rfl
  | 0, c :: t, h, _ => by simp at h
  | n + 1, c :: t, h, hv => by
    have hne : c :: t ≠ [] := by simp
    have hb : ¬ ((decodeL (c :: t)).1 = 65533 ∧ (decodeL (c :: t)).2 = 1) := fun h => by rw [validD_step _ hne, if_pos h] at hv; cases hv
    have hw := decodeL_width (c :: t)
    rw [runes_step _ hne, List.flatMap_cons, runes_enc n _ (by rw [List.length_drop]; simp at h ⊢; omega) (valid_drop _ hne hv), encode_decode _ hne hb, List.take_append_drop]

theorem hexC_16 : ∀ q : Fin 16, hexD (hexC q.val) = some q.val ∧ (hexC q.val).toNat < 128 ∧ 32 ≤ (hexC q.val).toNat ∧ (hexC q.val).toNat ≠ 127 := by decide +kernel
theorem hexC_tab (r : Nat) (h : r < 128) : hexN 0 [hexC (r / 16), hexC (r % 16)] = some r ∧ (hexC (r / 16)).toNat < 128 ∧ (hexC (r % 16)).toNat < 128 ∧
    32 ≤ (hexC (r / 16)).toNat ∧ 32 ≤ (hexC (r % 16)).toNat ∧ (hexC (r / 16)).toNat ≠ 127 ∧ (hexC (r % 16)).toNat ≠ 127 := by
  obtain ⟨a1, a2, a3, a4⟩ := hexC_16 ⟨r / 16, by omega⟩
  obtain ⟨b1, b2, b3, b4⟩ := hexC_16 ⟨r % 16, by omega⟩
  refine ⟨?_, a2, b2, a3, b3, a4, b4⟩
  unfold hexN
  rw [a1]
  show hexN (0 * 16 + r / 16) [hexC (r % 16)] = some r
  unfold hexN
  rw [b1]
  show some ((0 * 16 + r / 16) * 16 + r % 16) = some r
  congr 1; omega
theorem not_plain {r : Nat} (h : plainRune r = false) : r < 128 := by
  unfold plainRune plainN at h
  simp at h
  omega
theorem enc_ne (r : Nat) (h : SignN r) : 0 < (encodeRune (r : Int)).length := by
  have h1 := dec_enc r h []
  have h2 := decodeL_width (encodeRune (r : Int) ++ [])
  rw [h1] at h2
  exact h2
theorem escL_byte (c : UInt8) (t : List UInt8) (h : c.toNat < 128) : escL (c :: t) = if memB [34, 92, 47] (c.toNat : Int) then .sign (c.toNat : Int) 1 else if (c.toNat : Int) = 48 then .sign 0 1
    else if (c.toNat : Int) = 120 then shQ 1 (numLq t 2) else if (c.toNat : Int) = 117 then shQ 1 (numLq t 4) else match shortQ (c.toNat : Int) with | some y => .sign y 1 | none => .bad 41 := by
  unfold escL
  rw [if_neg (by simp), runeL_cons c t h, List.drop_one, List.tail_cons]
  rfl
theorem numLq_two {a b : UInt8} {r : Nat} (h1 : hexN 0 [a, b] = some r) (hr : r < 128) (m : List UInt8) : numLq (a :: b :: m) 2 = .sign r 2 := by
  have hvr : Lib.validRune (r : Int) = true := by unfold Lib.validRune; rw [decide_eq_true_eq]; omega
  have h2 : numL (a :: b :: m) 2 = some r := by
    unfold numL
    rw [if_neg (by simp), show (a :: b :: m).take 2 = [a, b] from rfl, h1]
    simp only [hvr, if_true]
  unfold numLq
  rw [h2]
/-- What a reader makes of one sign. -/
theorem oneL_qsign {r : Nat} (h : SignN r) (m : List UInt8) : oneL 34 (qsign r ++ m) = .sign r (qsign r).length := by
  have e92 : ∀ t : List UInt8, oneL 34 (92 :: t) = shQ 1 (escL t) := fun t => by
    unfold oneL
    rw [if_neg (by simp), runeL_cons _ _ (by decide), if_neg (by decide), if_pos ⟨rfl, rfl⟩]
    rfl
  unfold qsign
  split
  · rename_i e; subst e
    rw [show [(92 : UInt8), 110] ++ m = 92 :: 110 :: m from rfl, e92, escL_byte _ _ (by decide)]
    simp [memB, shortQ, shQ]
  · split
    · rename_i e; subst e
      rw [show [(92 : UInt8), 116] ++ m = 92 :: 116 :: m from rfl, e92, escL_byte _ _ (by decide)]
      simp [memB, shortQ, shQ]
    · split
      · rename_i e; subst e
        rw [show [(92 : UInt8), 114] ++ m = 92 :: 114 :: m from rfl, e92, escL_byte _ _ (by decide)]
        simp [memB, shortQ, shQ]
      · split
        · rename_i e
          rcases e with rfl | rfl
          · rw [show [(92 : UInt8), UInt8.ofNat 34] ++ m = 92 :: 34 :: m from rfl, e92, escL_byte _ _ (by decide)]
            simp [memB, shortQ, shQ]
          · rw [show [(92 : UInt8), UInt8.ofNat 92] ++ m = 92 :: 92 :: m from rfl, e92, escL_byte _ _ (by decide)]
            simp [memB, shortQ, shQ]
        · rename_i hq
          split
          · rename_i hp
            have h0 := enc_ne r h
            have hd := dec_enc r h m
            have hne : encodeRune (r : Int) ++ m ≠ [] := by intro e; rw [List.append_eq_nil_iff] at e; rw [e.1] at h0; simp at h0
            have hr : runeL (encodeRune (r : Int) ++ m) = (r : Int) := by unfold runeL; rw [if_neg hne, hd]; simp
            unfold oneL
            rw [if_neg (fun e => hne (List.length_eq_zero_iff.1 e)), hr, if_neg (by omega), if_neg (by omega), hd]
            unfold plainRune at hp
            rw [if_pos hp]
          · rename_i hp
            have hlt := not_plain (by simpa using hp)
            obtain ⟨h1, h2, h3, _⟩ := hexC_tab r hlt
            rw [show [(92 : UInt8), 120, hexC (r / 16), hexC (r % 16)] ++ m = 92 :: 120 :: hexC (r / 16) :: hexC (r % 16) :: m from rfl, e92, escL_byte _ _ (by decide), if_neg (by simp [memB]), if_neg (by simp), if_pos (by simp)]
            have hn : numLq (hexC (r / 16) :: hexC (r % 16) :: m) 2 = .sign r 2 := numLq_two h1 (by omega) m
            rw [hn]
            simp [shQ]
theorem qsign_pos {r : Nat} (h : SignN r) : 1 ≤ (qsign r).length := by
  unfold qsign
  repeat' split
  all_goals first | (have := enc_ne r h; omega) | simp
theorem readL_signs (m : List UInt8) : ∀ (rs : List Nat) (f : Nat) (acc : List UInt8) (n : Nat), (∀ r ∈ rs, SignN r) → rs.length < f →
    readL 34 f (rs.flatMap qsign ++ 34 :: m) acc n = (acc ++ rs.flatMap (fun r : Nat => encodeRune r), n + (rs.flatMap qsign).length + 1, 0)
  | [], 0, _, _, _, h => by simp at h
  | [], f + 1, acc, n, _, _ => by
    unfold readL
    have : oneL 34 ([].flatMap qsign ++ 34 :: m) = .fin 1 := by
      unfold oneL
      rw [List.flatMap_nil, List.nil_append, if_neg (by simp), runeL_cons _ _ (by decide)]
      simp
    rw [this]
    simp
  | r :: rs, 0, _, _, _, h => by simp at h
  | r :: rs, f + 1, acc, n, h, hf => by
    have hr := h r (List.mem_cons_self ..)
    have h1 := oneL_qsign hr (rs.flatMap qsign ++ 34 :: m)
    unfold readL
    rw [List.flatMap_cons, List.append_assoc, h1]
    show readL 34 f ((qsign r ++ (rs.flatMap qsign ++ 34 :: m)).drop (qsign r).length) (acc ++ encodeRune r) (n + (qsign r).length) = _
    rw [List.drop_left, readL_signs m rs f _ _ (fun x hx => h x (List.mem_cons_of_mem _ hx)) (by simp at hf; omega)]
    simp [Nat.add_assoc]
theorem flat_ge : ∀ rs : List Nat, (∀ r ∈ rs, SignN r) → rs.length ≤ (rs.flatMap qsign).length
  | [], _ => by simp
  | r :: rs, h => by
    have h1 := qsign_pos (h r (List.mem_cons_self ..))
    have h2 := flat_ge rs (fun x hx => h x (List.mem_cons_of_mem _ hx))
    rw [List.flatMap_cons, List.length_append, List.length_cons]; omega

/-! ### a quoted text is right, and of plain signs -/
theorem enc_right {r : Nat} (h : SignN r) (m : List UInt8) : validD (encodeRune (r : Int) ++ m) = validD m ∧ runes (encodeRune (r : Int) ++ m) = r :: runes m := by
  have h0 := enc_ne r h
  have hd := dec_enc r h m
  have hne : encodeRune (r : Int) ++ m ≠ [] := by intro e; rw [List.append_eq_nil_iff] at e; rw [e.1] at h0; simp at h0
  constructor
  · rw [validD_step _ hne, hd, if_neg, List.drop_left]
    rintro ⟨h1, h2⟩
    have := enc_len3 (r : Int) h1
    omega
  · rw [runes_step _ hne, hd, List.drop_left]; simp
theorem byte_right {c : UInt8} (hc : c.toNat < 128) (h1 : 32 ≤ c.toNat) (h2 : c.toNat ≠ 127) (m : List UInt8) : validD (c :: m) = validD m ∧ (runes (c :: m)).all plainRune = (runes m).all plainRune := by
  refine ⟨validD_cons c m hc, ?_⟩
  rw [runes_ascii c m hc, List.all_cons]
  have : plainRune c.toNat = true := by unfold plainRune plainN; simp; omega
  rw [this, Bool.true_and]
theorem two_right (c : UInt8) (hc : c.toNat < 128) (h1 : 32 ≤ c.toNat) (h2 : c.toNat ≠ 127) (m : List UInt8) : validD (92 :: c :: m) = validD m ∧ (runes (92 :: c :: m)).all plainRune = (runes m).all plainRune := by
  obtain ⟨a1, a2⟩ := byte_right (c := 92) (by decide) (by decide) (by decide) (c :: m)
  obtain ⟨b1, b2⟩ := byte_right hc h1 h2 m
  exact ⟨a1.trans b1, a2.trans b2⟩
theorem qsign_right {r : Nat} (h : SignN r) (m : List UInt8) : validD (qsign r ++ m) = validD m ∧ (runes (qsign r ++ m)).all plainRune = (runes m).all plainRune := by
  unfold qsign
  split
  · exact two_right 110 (by decide) (by decide) (by decide) m
  · split
    · exact two_right 116 (by decide) (by decide) (by decide) m
    · split
      · exact two_right 114 (by decide) (by decide) (by decide) m
      · split
        · rename_i e
          rcases e with rfl | rfl
          · exact two_right 34 (by decide) (by decide) (by decide) m
          · exact two_right 92 (by decide) (by decide) (by decide) m
        · split
          · rename_i hp
            obtain ⟨a, b⟩ := enc_right h m
            exact ⟨a, by rw [b, List.all_cons, hp, Bool.true_and]⟩
          · rename_i hp
            have hlt := not_plain (by simpa using hp)
            obtain ⟨_, h2, h3, h4, h5, h6, h7⟩ := hexC_tab r hlt
            obtain ⟨a1, a2⟩ := two_right 120 (by decide) (by decide) (by decide) (hexC (r / 16) :: hexC (r % 16) :: m)
            obtain ⟨b1, b2⟩ := byte_right h2 h4 h6 (hexC (r % 16) :: m)
            obtain ⟨c1, c2⟩ := byte_right h3 h5 h7 m
            exact ⟨a1.trans (b1.trans c1), a2.trans (b2.trans c2)⟩
theorem flat_right (m : List UInt8) : ∀ rs : List Nat, (∀ r ∈ rs, SignN r) → validD (rs.flatMap qsign ++ m) = validD m ∧ (runes (rs.flatMap qsign ++ m)).all plainRune = (runes m).all plainRune
  | [], _ => ⟨rfl, rfl⟩
  | r :: rs, h => by
    obtain ⟨a, b⟩ := qsign_right (h r (List.mem_cons_self ..)) (rs.flatMap qsign ++ m)
    obtain ⟨c, d⟩ := flat_right m rs (fun x hx => h x (List.mem_cons_of_mem _ hx))
    rw [List.flatMap_cons, List.append_assoc]
    exact ⟨a.trans c, b.trans d⟩
theorem quote_right {l : List UInt8} (hv : validD l = true) (m : List UInt8) : validD (quoteP l ++ m) = validD m ∧ (runes (quoteP l ++ m)).all plainRune = (runes m).all plainRune := by
  unfold quoteP
  rw [List.cons_append, List.append_assoc]
  obtain ⟨a1, a2⟩ := byte_right (c := 34) (by decide) (by decide) (by decide) ((runes l).flatMap qsign ++ ([34] ++ m))
  obtain ⟨b1, b2⟩ := flat_right ([34] ++ m) (runes l) (runes_sign _ l (Nat.le_refl _) hv)
  obtain ⟨c1, c2⟩ := byte_right (c := 34) (by decide) (by decide) (by decide) m
  exact ⟨a1.trans (b1.trans c1), a2.trans (b2.trans c2)⟩

/-- What is read of a quoted text, wherever it stands. -/
theorem readQ_quote {l : List UInt8} (hv : validD l = true) (b m : List UInt8) (hbm : validD (b ++ (quoteP l ++ m)) = true) :
    readQ ⟨(b ++ (quoteP l ++ m)).toArray⟩ (b.length : Int) = (l, b.length + (quoteP l).length, 0) := by
  have hs := runes_sign _ l (Nat.le_refl _) hv
  have hq : quoteB (b ++ (quoteP l ++ m)) b.length 34 := by
    refine ⟨by simp [quoteP], .inl ⟨?_, rfl⟩⟩
    have := getD_right b (quoteP l ++ m) 0
    rw [Nat.add_zero] at this
    rw [this]; rfl
  have hfl := flat_ge _ hs
  rw [readQ_L hq hbm, ← List.drop_drop, List.drop_left]
  have hd : (quoteP l ++ m).drop 1 = (runes l).flatMap qsign ++ 34 :: m := by unfold quoteP; simp
  have hfuel : (runes l).length < (b ++ (quoteP l ++ m)).length + 1 - (b.length + 1) := by
    unfold quoteP
    rw [List.length_append, List.length_append, List.length_cons, List.length_append]
    omega
  rw [hd, readL_signs m (runes l) _ _ _ hs hfuel, runes_enc _ l (Nat.le_refl _) hv]
  unfold quoteP
  simp; omega
/-- A quoted text is one piece, wherever it stands. -/
theorem oneT_quote {l : List UInt8} (hv : validD l = true) (b m : List UInt8) (d : Nat) (hbm : validD (b ++ (quoteP l ++ m)) = true) (hm : Behind m d) :
    oneT (b ++ (quoteP l ++ m)) b.length d = .ok 2 l (b.length + (quoteP l).length) d ∧ isB (b ++ (quoteP l ++ m)) b.length [32] = false ∧ noteB (b ++ (quoteP l ++ m)) b.length = false := by
  have hr := readQ_quote hv b m hbm
  have hc : (b ++ (quoteP l ++ m)).getD b.length 0 = 34 := by
    have := getD_right b (quoteP l ++ m) 0
    rw [Nat.add_zero] at this
    rw [this]; rfl
  have hs : ∀ bs, isB (b ++ (quoteP l ++ m)) b.length bs = isB (quoteP l ++ m) 0 bs := fun bs => by
    have := isB_shift b (quoteP l ++ m) 0 bs
    rwa [Nat.add_zero] at this
  have hi : ∀ bs, isB (quoteP l ++ m) 0 bs = amongB bs 34 := fun bs => by
    rw [isB_in (by simp [quoteP])]; rfl
  refine ⟨?_, by rw [hs, hi]; rfl, by unfold noteB; rw [hs, hi]; rfl⟩
  unfold oneT oneC
  rw [hc, if_pos (.inl rfl)]
  unfold quotedT
  rw [hr]
  have hcl : closedB (b ++ (quoteP l ++ m)) (b.length + (quoteP l).length) d = true := by
    rw [closedB_shift]
    rcases hm with rfl | ⟨h1, c, r, rfl, h2⟩
    · unfold closedB blankB; simp
    · unfold closedB
      have h3 : isB (quoteP l ++ c :: r) (quoteP l).length flowL = true := by
        have := isB_shift (quoteP l) (c :: r) 0 flowL
        rw [Nat.add_zero] at this
        rw [this]
        unfold isB
        simpa using h2
      rw [h3, decide_eq_true h1]; simp
  simp [hcl]
theorem quotes_one {l : List UInt8} (hv : validD l = true) : readT (quoteP l) = ([⟨2, l, 0⟩], 0, 0) := by
  obtain ⟨a, b⟩ := quote_right hv []
  rw [List.append_nil] at a b
  obtain ⟨h1, h2, h3⟩ := oneT_quote hv [] [] 0 (by rw [List.nil_append, List.append_nil]; exact a) (.inl rfl)
  simp only [List.nil_append, List.append_nil, List.length_nil, Nat.zero_add] at h1 h2 h3
  unfold readT
  have a' : validD (quoteP l) = true := a
  have b' : (runes (quoteP l)).all plainRune = true := b
  rw [if_pos a', if_pos b', toksT_ok a' (by simp [quoteP]) h2 h3 h1, toksT_end _ (Nat.le_refl _)]
  rfl
theorem comma_T {b m : List UInt8} (hv : validD (b ++ 44 :: m) = true) : toksT (b ++ 44 :: m) b.length 1 = .tok 7 [] b.length :: toksT (b ++ 44 :: m) (b.length + 1) 1 := by
  have hs := fun bs => isB_shift b (44 :: m) 0 bs
  simp only [Nat.add_zero] at hs
  have hg : (b ++ 44 :: m).getD b.length 0 = 44 := by have := getD_right b (44 :: m) 0; rwa [Nat.add_zero] at this
  have ho : oneT (b ++ 44 :: m) b.length 1 = .ok 7 [] (b.length + 1) 1 := by
    unfold oneT
    rw [hg]
    rfl
  exact toksT_ok hv (by simp) (by rw [hs]; unfold isB; rw [show (44 :: m).getD 0 0 = 44 from rfl]; simp [amongB]) (by unfold noteB; rw [hs]; unfold isB; rw [show (44 :: m).getD 0 0 = 44 from rfl]; simp [amongB]) ho
theorem quotes_list {l : List UInt8} (hv : validD l = true) : readT (91 :: (quoteP l ++ 44 :: (quoteP l ++ [93]))) =
    ([⟨8, [], 0⟩, ⟨2, l, 1⟩, ⟨7, [], 1 + (quoteP l).length⟩, ⟨2, l, 2 + (quoteP l).length⟩, ⟨9, [], 2 + 2 * (quoteP l).length⟩], 0, 0) := by
  have hq := quote_right hv
  have hval : validD (91 :: (quoteP l ++ 44 :: (quoteP l ++ [93]))) = true := by
    rw [validD_cons _ _ (by decide), (hq _).1, validD_cons _ _ (by decide), (hq _).1]; rfl
  have hru : (runes (91 :: (quoteP l ++ 44 :: (quoteP l ++ [93])))).all plainRune = true := by
    rw [(byte_right (c := 91) (by decide) (by decide) (by decide) _).2, (hq _).2, (byte_right (c := 44) (by decide) (by decide) (by decide) _).2, (hq _).2]; rfl
  obtain ⟨L, hL⟩ : ∃ L, quoteP l = L := ⟨_, rfl⟩
  obtain ⟨h1, h2, h3⟩ := oneT_quote hv [91] (44 :: (quoteP l ++ [93])) 1 hval (.inr ⟨by omega, 44, _, rfl, rfl⟩)
  have e1 : (91 :: (quoteP l ++ 44 :: (quoteP l ++ [93]))) = (91 :: quoteP l) ++ 44 :: (quoteP l ++ [93]) := rfl
  have e2 : (91 :: (quoteP l ++ 44 :: (quoteP l ++ [93]))) = (91 :: (quoteP l ++ [44])) ++ (quoteP l ++ [93]) := by simp
  have e3 : (91 :: (quoteP l ++ 44 :: (quoteP l ++ [93]))) = (91 :: (quoteP l ++ 44 :: quoteP l)) ++ [93] := by simp
  obtain ⟨k1, k2, k3⟩ := oneT_quote hv (91 :: (quoteP l ++ [44])) [93] 1 (by rw [← e2]; exact hval) (.inr ⟨by omega, 93, [], rfl, rfl⟩)
  rw [← e2] at k1 k2 k3
  have h4 := close_T (91 :: (quoteP l ++ 44 :: quoteP l)) (by rw [← e3]; exact hval)
  rw [← e3] at h4
  have h5 := toksT_ok hval (p := 1) (d := 1) (by simp; omega) h2 h3 h1
  have h6 := comma_T (b := 91 :: quoteP l) (m := quoteP l ++ [93]) hval
  have h7 := toksT_ok hval (by simp) k2 k3 k1
  rw [← e1] at h6
  unfold readT
  rw [if_pos hval, if_pos hru, open_T (c := 0) (d := 0) _ hval, h5]
  clear h1 h2 h3 k1 k2 k3 h5
  rw [hL] at h4 h6 h7 ⊢
  have l1 : ([91] : List UInt8).length + L.length = (91 :: L).length := by simp; omega
  have l2 : (91 :: L).length + 1 = (91 :: (L ++ [44])).length := by simp
  have l3 : (91 :: (L ++ [44])).length + L.length = (91 :: (L ++ 44 :: L)).length := by simp; omega
  rw [l1, h6, l2, h7, l3, h4]
  simp [foldT]
  omega
end Go.Proofs.YtkdhaipjfkalfaaGreatDoor
