import Derived.Test.YtiinnnbpbnojgaaGreatDoorMc
/- What is proved: a line's pieces: places go on; with blanks ahead, so much further on; no program stands in it. -/
namespace Go.Proofs.YtiinnnbpbnojgaaGreatDoor
open Go Go.RowKit Go.Lib
set_option linter.unusedSimpArgs false
set_option linter.unusedVariables false

/-! ### one piece -/
theorem oneC_quoted {l : List UInt8} {p d : Nat} {c : UInt8} (h : c = 34 ∨ c = 39) : oneC l p d c = quotedT l p d := by unfold oneC; rw [if_pos h]
/-- What a piece is. -/
def OkT (l : List UInt8) (p d k : Nat) (t : List UInt8) (to d' : Nat) : Prop :=
  p < to ∧ to ≤ l.length ∧ 1 ≤ k ∧ k ≤ 11 ∧ (4 < k → t = []) ∧ ((k = 8 ∨ k = 10) ∧ d' = d + 1 ∨ (k = 9 ∨ k = 11) ∧ d = d' + 1 ∨ (k ≤ 7 ∧ d' = d)) ∧ (k = 7 → 0 < d) ∧ (k = 5 → d = 0)
theorem plainT_OkT {l : List UInt8} {p d k to d' : Nat} {t : List UInt8} (hp : p ≤ l.length) (h : plainT l p d = .ok k t to d') : OkT l p d k t to d' := by
  obtain ⟨rfl, rfl, h3, h4, h5, h6, h7⟩ := plainT_ok hp h
  exact ⟨h6, h7, by omega, by omega, by omega, by omega, by omega, by omega⟩
theorem closed_le {l : List UInt8} {i d : Nat} : True := trivial
theorem oneT_ok {l : List UInt8} {p d k to d' : Nat} {t : List UInt8} (hv : validD l = true) (hp : p < l.length) (h : oneT l p d = .ok k t to d') : OkT l p d k t to d' := by
  unfold oneT oneC at h
  split at h
  · rename_i hc
    obtain ⟨q, hq, hq8⟩ := quoteB_of hp hc
    unfold quotedT at h
    split at h
    · rename_i he
      have := readQ_to hq hq8 hv he
      split at h
      · injection h with h1 h2 h3 h4
        subst h1 h2 h3 h4
        exact ⟨by omega, by omega, by omega, by omega, by omega, by omega, by omega, by omega⟩
      · cases h
    · cases h
  · split at h
    · unfold namedT at h
      split at h
      · rename_i hn
        injection h with h1 h2 h3 h4
        subst h1 h2 h3 h4
        have hle : (nameOf l p).length ≤ (l.drop (p + 1)).length := (List.takeWhile_prefix _).length_le
        rw [List.length_drop] at hle
        refine ⟨by omega, by omega, by split <;> omega, by split <;> omega, fun hk => by split at hk <;> omega, ?_, fun hk => by split at hk <;> omega, fun hk => by split at hk <;> omega⟩
        refine .inr (.inr ⟨by split <;> omega, rfl⟩)
      · cases h
    · split at h
      · unfold dashT at h
        split at h
        · split at h
          · cases h
          · injection h with h1 h2 h3 h4
            subst h1 h2 h3 h4
            exact ⟨by omega, by omega, by omega, by omega, fun _ => rfl, by omega, by omega, by omega⟩
        · exact plainT_OkT (by omega) h
      · split at h
        · unfold colonT at h
          split at h
          · injection h with h1 h2 h3 h4
            subst h1 h2 h3 h4
            exact ⟨by omega, by omega, by omega, by omega, fun _ => rfl, by omega, by omega, by omega⟩
          · exact plainT_OkT (by omega) h
        · split at h
          · injection h with h1 h2 h3 h4
            subst h1 h2 h3 h4
            refine ⟨by omega, by omega, by split <;> omega, by split <;> omega, fun _ => rfl, .inl ⟨by split <;> simp, rfl⟩, fun hk => by split at hk <;> omega, fun hk => by split at hk <;> omega⟩
          · split at h
            · unfold insideT at h
              split at h
              · cases h
              · split at h
                · injection h with h1 h2 h3 h4
                  subst h1 h2 h3 h4
                  exact ⟨by omega, by omega, by omega, by omega, fun _ => rfl, by omega, by omega, by omega⟩
                · injection h with h1 h2 h3 h4
                  subst h1 h2 h3 h4
                  refine ⟨by omega, by omega, by split <;> omega, by split <;> omega, fun _ => rfl, .inr (.inl ⟨by split <;> simp, by omega⟩), fun hk => by split at hk <;> omega, fun hk => by split at hk <;> omega⟩
            · exact plainT_OkT (by omega) h
theorem plainT_bad {l : List UInt8} {p d e : Nat} (h : plainT l p d = .bad e) : e = 51 := by
  unfold plainT at h
  split at h
  · cases h
  · injection h with h; exact h.symm
theorem oneT_bad {l : List UInt8} {p d e : Nat} (hv : validD l = true) (hp : p < l.length) (h : oneT l p d = .bad e) : e = 51 ∨ e = 90 ∨ e = 41 ∨ e = 42 := by
  unfold oneT oneC at h
  split at h
  · rename_i hc
    obtain ⟨q, hq, hq8⟩ := quoteB_of hp hc
    have hr := readQ_err hq hv
    unfold quotedT at h
    split at h
    · split at h
      · cases h
      · injection h with h; omega
    · injection h with h; omega
  · split at h
    · unfold namedT at h
      split at h
      · cases h
      · injection h with h; omega
    · split at h
      · unfold dashT at h
        split at h
        · split at h
          · injection h with h; omega
          · cases h
        · have := plainT_bad h; omega
      · split at h
        · unfold colonT at h
          split at h
          · cases h
          · have := plainT_bad h; omega
        · split at h
          · cases h
          · split at h
            · unfold insideT at h
              split at h
              · injection h with h; omega
              · split at h <;> cases h
            · have := plainT_bad h; omega
theorem toksF_fuel {l : List UInt8} (hv : validD l = true) : ∀ (f g p d : Nat), l.length < f + p → l.length < g + p → toksF l f p d = toksF l g p d
  | 0, 0, p, d, _, _ => rfl
  | 0, g + 1, p, d, hf, _ => by unfold toksF; rw [if_pos (by omega)]
  | f + 1, 0, p, d, _, hg => by unfold toksF; rw [if_pos (by omega)]
  | f + 1, g + 1, p, d, hf, hg => by
    unfold toksF
    split
    · rfl
    · rename_i hp
      split
      · exact toksF_fuel hv f g (p + 1) d (by omega) (by omega)
      · split
        · rfl
        · cases ho : oneT l p d with
          | bad e => rfl
          | ok k t to d' =>
            have := oneT_ok hv (by omega) ho
            exact congrArg _ (toksF_fuel hv f g to d' (by have := this.1; omega) (by have := this.1; omega))
theorem toksT_fuel {l : List UInt8} (hv : validD l = true) {f p : Nat} (d : Nat) (h : l.length < f + p) : toksT l p d = toksF l f p d := by
  unfold toksT
  rcases Nat.lt_or_ge l.length p with h1 | h1
  · rw [show l.length + 1 - p = 0 by omega]
    exact toksF_fuel hv 0 f p d (by omega) h
  · exact toksF_fuel hv _ f p d (by omega) h
theorem toksT_end {l : List UInt8} {p : Nat} (d : Nat) (h : l.length ≤ p) : toksT l p d = [] := by
  unfold toksT
  cases hn : l.length + 1 - p with
  | zero => rfl
  | succ n => unfold toksF; rw [if_pos h]
theorem toksT_blank {l : List UInt8} (hv : validD l = true) {p d : Nat} (hp : p < l.length) (h : isB l p [32] = true) : toksT l p d = toksT l (p + 1) d := by
  rw [toksT_fuel hv d (f := l.length + 1) (by omega), toksT_fuel hv (p := p + 1) d (f := l.length) (by omega)]
  show (if l.length ≤ p then [] else _) = _
  rw [if_neg (by omega), if_pos h]
theorem toksT_note {l : List UInt8} (hv : validD l = true) {p d : Nat} (hp : p < l.length) (h : isB l p [32] = false) (hn : noteB l p = true) : toksT l p d = [] := by
  rw [toksT_fuel hv d (f := l.length + 1) (by omega)]
  show (if l.length ≤ p then [] else _) = _
  rw [if_neg (by omega), h, if_neg (by decide), if_pos hn]
theorem toksT_ok {l : List UInt8} (hv : validD l = true) {p d k to d' : Nat} {t : List UInt8} (hp : p < l.length) (h : isB l p [32] = false) (hn : noteB l p = false) (ho : oneT l p d = .ok k t to d') : toksT l p d = .tok k t p :: toksT l to d' := by
  rw [toksT_fuel hv d (f := l.length + 1) (by omega), toksT_fuel hv (p := to) d' (f := l.length) (by have := (oneT_ok hv hp ho).1; omega)]
  show (if l.length ≤ p then [] else _) = _
  rw [if_neg (by omega), h, if_neg (by decide), hn, if_neg (by decide), ho]
theorem toksT_bad {l : List UInt8} (hv : validD l = true) {p d e : Nat} (hp : p < l.length) (h : isB l p [32] = false) (hn : noteB l p = false) (ho : oneT l p d = .bad e) : toksT l p d = [.bad e p] := by
  rw [toksT_fuel hv d (f := l.length + 1) (by omega)]
  show (if l.length ≤ p then [] else _) = _
  rw [if_neg (by omega), h, if_neg (by decide), hn, if_neg (by decide), ho]

/-! ### what is made of pieces -/
def tkOf : TP → Tk
  | .tok k t p => ⟨k, t, p⟩
  | .bad e p => ⟨0, [], 0⟩
def badOf : List TP → Option (Nat × Nat)
  | [] => none
  | .tok _ _ _ :: r => badOf r
  | .bad e p :: _ => some (e, p)
theorem fold_bad : ∀ (ps : List TP) (acc : List Tk), foldT ps acc = match badOf ps with | some (e, p) => ([], p, e) | none => (acc ++ ps.map tkOf, 0, 0)
  | [], acc => by simp [foldT, badOf]
  | .tok k t p :: r, acc => by
    unfold foldT badOf
    rw [fold_bad r]
    cases badOf r with
    | some x => rfl
    | none => simp [tkOf]
  | .bad e p :: r, acc => rfl
theorem toksF_succ {l : List UInt8} {f p d : Nat} (hp : p < l.length) : toksF l (f + 1) p d = if isB l p [32] then toksF l f (p + 1) d else if noteB l p then [] else match oneT l p d with
    | .ok k t to d' => .tok k t p :: toksF l f to d'
    | .bad e => [.bad e p] := by
  show (if l.length ≤ p then [] else _) = _
  rw [if_neg (by omega)]
  rfl
theorem toksF_ge {l : List UInt8} {f p d : Nat} (hp : l.length ≤ p) : toksF l f p d = [] := by
  cases f with
  | zero => rfl
  | succ f => unfold toksF; rw [if_pos hp]
theorem badOf_is {l : List UInt8} (hv : validD l = true) : ∀ (f p d e p' : Nat), badOf (toksF l f p d) = some (e, p') → (e = 51 ∨ e = 90 ∨ e = 41 ∨ e = 42) ∧ p ≤ p' ∧ p' < l.length
  | 0, p, d, e, p', h => by simp [toksF, badOf] at h
  | f + 1, p, d, e, p', h => by
    rcases Nat.lt_or_ge p l.length with hp | hp
    · rw [toksF_succ hp] at h
      split at h
      · have := badOf_is hv f _ _ _ _ h; omega
      · split at h
        · simp [badOf] at h
        · cases ho : oneT l p d with
          | ok k t to d' =>
            rw [ho] at h
            have h1 := (oneT_ok hv hp ho).1
            have := badOf_is hv f to d' e p' h
            omega
          | bad e2 =>
            rw [ho] at h
            injection h with h
            injection h with h1 h2
            subst h1 h2
            exact ⟨oneT_bad hv hp ho, by omega, hp⟩
    · rw [toksF_ge hp] at h; simp [badOf] at h

/-- Places rise, within the text; ends of flows have beginnings. -/
def Rises (n : Nat) : Int → Nat → List Tk → Prop
  | _, _, [] => True
  | last, d, t :: r => last < (t.at_ : Int) ∧ t.at_ < n ∧ 1 ≤ t.kind ∧ t.kind ≤ 11 ∧ (4 < t.kind → t.str = []) ∧
      ∃ d', ((t.kind = 8 ∨ t.kind = 10) ∧ d' = d + 1 ∨ (t.kind = 9 ∨ t.kind = 11) ∧ d = d' + 1 ∨ (t.kind ≤ 7 ∧ d' = d)) ∧ (t.kind = 7 → 0 < d) ∧ (t.kind = 5 → d = 0) ∧ Rises n (t.at_ : Int) d' r
theorem toksF_rises {l : List UInt8} (hv : validD l = true) : ∀ (f p d : Nat) (last : Int), last < (p : Int) → badOf (toksF l f p d) = none → Rises l.length last d ((toksF l f p d).map tkOf)
  | 0, p, d, last, hl, _ => trivial
  | f + 1, p, d, last, hl, h => by
    rcases Nat.lt_or_ge p l.length with hp | hp
    · rw [toksF_succ hp] at h ⊢
      split
      · rename_i hb
        rw [if_pos hb] at h
        exact toksF_rises hv f (p + 1) d last (by omega) h
      · rename_i hb
        rw [if_neg hb] at h
        split
        · trivial
        · rename_i hn
          rw [if_neg hn] at h
          cases ho : oneT l p d with
          | ok k t to d' =>
            rw [ho] at h
            obtain ⟨h1, h2, h3, h4, h5, h6, h7, h8⟩ := oneT_ok hv hp ho
            exact ⟨hl, hp, h3, h4, h5, d', h6, h7, h8, toksF_rises hv f to d' p (by omega) h⟩
          | bad e => rw [ho] at h; simp [badOf] at h
    · rw [toksF_ge hp]; trivial
/-- What readT says. -/
theorem readT_cases (l : List UInt8) : (∃ e p, readT l = ([], p, e) ∧ e ≠ 0 ∧ p ≤ l.length) ∨ (∃ ts, readT l = (ts, 0, 0) ∧ Rises l.length (-1) 0 ts) := by
  unfold readT
  by_cases hv : validD l = true
  · rw [if_pos hv]
    by_cases hp : (runes l).all plainRune = true
    · rw [if_pos hp, fold_bad]
      cases hb : badOf (toksT l 0 0) with
      | some x =>
        obtain ⟨e, p⟩ := x
        have := badOf_is hv _ _ _ _ _ hb
        exact .inl ⟨e, p, rfl, by omega, by omega⟩
      | none => exact .inr ⟨_, rfl, toksF_rises hv _ 0 0 (-1) (by omega) hb⟩
    · rw [if_neg hp]; exact .inl ⟨80, 0, rfl, by omega, by omega⟩
  · rw [if_neg hv]; exact .inl ⟨40, 0, rfl, by omega, by omega⟩
end Go.Proofs.YtiinnnbpbnojgaaGreatDoor

/- What is proved: a line with blanks ahead has the same pieces, so much further on; a note behind a line changes none; no program stands in it. -/
namespace Go.Proofs.YtiinnnbpbnojgaaGreatDoor
open Go Go.RowKit Go.Lib
set_option linter.unusedSimpArgs false
set_option linter.unusedVariables false

/-! ### blanks ahead -/
def shTR (n : Nat) : TR → TR
  | .ok k t to d => .ok k t (n + to) d
  | .bad e => .bad e
def shTP (n : Nat) : TP → TP
  | .tok k t p => .tok k t (n + p)
  | .bad e p => .bad e (n + p)
theorem isB_shift (b l : List UInt8) (i : Nat) (bs : List UInt8) : isB (b ++ l) (b.length + i) bs = isB l i bs := by
  unfold isB
  rw [getD_right, List.length_append]
  congr 1
  rw [Bool.eq_iff_iff]; simp
theorem blankB_shift (b l : List UInt8) (i : Nat) : blankB (b ++ l) (b.length + i) = blankB l i := by
  unfold blankB
  rw [isB_shift, List.length_append]
  congr 1
  rw [Bool.eq_iff_iff]; simp
theorem closedB_shift (b l : List UInt8) (i d : Nat) : closedB (b ++ l) (b.length + i) d = closedB l i d := by
  unfold closedB
  rw [isB_shift, blankB_shift]
theorem noteB_shift (n : Nat) (l : List UInt8) (p : Nat) : noteB (List.replicate n 32 ++ l) ((List.replicate n (32 : UInt8)).length + p) = noteB l p := by
  unfold noteB
  rw [isB_shift]
  congr 1
  cases p with
  | succ k =>
    rw [show (List.replicate n (32 : UInt8)).length + (k + 1) - 1 = (List.replicate n (32 : UInt8)).length + k by omega, isB_shift]
    congr 1
  | zero =>
    cases n with
    | zero => simp
    | succ m =>
      have : isB (List.replicate (m + 1) 32 ++ l) ((List.replicate (m + 1) (32 : UInt8)).length + 0 - 1) [32] = true := by
        unfold isB
        rw [getD_left _ _ _ (by simp)]
        simp [List.getD, amongB]
        omega
      rw [this]; simp
theorem endB_shift (n : Nat) (l : List UInt8) (p d : Nat) : endB (List.replicate n 32 ++ l) ((List.replicate n (32 : UInt8)).length + p) d = endB l p d := by
  unfold endB
  rw [isB_shift, isB_shift, noteB_shift, Nat.add_assoc, closedB_shift, List.length_append]
  congr 1
  rw [Bool.eq_iff_iff]; simp
theorem endF_shift (n : Nat) (l : List UInt8) (d : Nat) : ∀ f p, endF (List.replicate n 32 ++ l) d f ((List.replicate n (32 : UInt8)).length + p) = (List.replicate n (32 : UInt8)).length + endF l d f p
  | 0, p => rfl
  | f + 1, p => by
    unfold endF
    rw [endB_shift]
    split
    · rfl
    · rw [Nat.add_assoc]; exact endF_shift n l d f (p + 1)
theorem endP_shift (n : Nat) (l : List UInt8) (p d : Nat) : endP (List.replicate n 32 ++ l) ((List.replicate n (32 : UInt8)).length + p) d = (List.replicate n (32 : UInt8)).length + endP l p d := by
  unfold endP
  rw [endF_shift, List.length_append, show (List.replicate n (32 : UInt8)).length + l.length - ((List.replicate n (32 : UInt8)).length + p) = l.length - p by omega]
theorem cut_shift (b l : List UInt8) (e p : Nat) : ((b ++ l).take (b.length + e)).drop (b.length + p) = (l.take e).drop p := by
  rw [List.take_append, List.take_of_length_le (by omega), show b.length + e - b.length = e by omega, ← List.drop_drop, List.drop_left]
theorem plainT_shift (n : Nat) (l : List UInt8) (p d : Nat) : plainT (List.replicate n 32 ++ l) ((List.replicate n (32 : UInt8)).length + p) d = shTR (List.replicate n (32 : UInt8)).length (plainT l p d) := by
  unfold plainT
  rw [endP_shift, cut_shift]
  split <;> rfl
theorem nameOf_shift (b l : List UInt8) (p : Nat) : nameOf (b ++ l) (b.length + p) = nameOf l p := by
  unfold nameOf
  rw [Nat.add_assoc, ← List.drop_drop, List.drop_left]
theorem valid_blanks (n : Nat) : validD (List.replicate n 32) = true := by
  induction n with
  | zero => rfl
  | succ n ih => rw [List.replicate_succ, validD_cons _ _ (by decide)]; exact ih
theorem oneT_shift (n : Nat) {l : List UInt8} {p : Nat} (d : Nat) (hv : validD l = true) (hp : p < l.length) : oneT (List.replicate n 32 ++ l) ((List.replicate n (32 : UInt8)).length + p) d = shTR (List.replicate n (32 : UInt8)).length (oneT l p d) := by
  unfold oneT
  rw [getD_right]
  unfold oneC
  split
  · rename_i hc
    obtain ⟨q, hq, _⟩ := quoteB_of hp hc
    unfold quotedT
    rw [readQ_shift hq (valid_blanks n) hv]
    by_cases he : (readQ ⟨l.toArray⟩ p).2.2 = 0
    · simp only [he, if_true]
      rw [closedB_shift, isB_shift]
      split <;> rfl
    · simp only [he, if_false]; rfl
  · split
    · unfold namedT
      rw [nameOf_shift, isB_shift, show (List.replicate n (32 : UInt8)).length + p + 1 + (nameOf l p).length = (List.replicate n (32 : UInt8)).length + (p + 1 + (nameOf l p).length) by omega, closedB_shift]
      split <;> rfl
    · split
      · unfold dashT
        rw [plainT_shift, Nat.add_assoc, blankB_shift]
        split
        · split <;> rfl
        · rfl
      · split
        · unfold colonT
          rw [plainT_shift, Nat.add_assoc, closedB_shift]
          split <;> rfl
        · split
          · simp [shTR, Nat.add_assoc]
          · split
            · unfold insideT
              split
              · rfl
              · split <;> simp [shTR, Nat.add_assoc]
            · exact plainT_shift n l p d
theorem toksF_shift (n : Nat) {l : List UInt8} (hv : validD l = true) : ∀ (f p d : Nat), toksF (List.replicate n 32 ++ l) f ((List.replicate n (32 : UInt8)).length + p) d = (toksF l f p d).map (shTP (List.replicate n (32 : UInt8)).length)
  | 0, p, d => rfl
  | f + 1, p, d => by
    unfold toksF
    by_cases hp : l.length ≤ p
    · rw [if_pos hp, if_pos (by rw [List.length_append]; omega)]; rfl
    · rw [if_neg hp, if_neg (by rw [List.length_append]; omega), isB_shift, noteB_shift]
      split
      · rw [Nat.add_assoc]; exact toksF_shift n hv f (p + 1) d
      · split
        · rfl
        · rw [oneT_shift n d hv (by omega)]
          cases ho : oneT l p d with
          | bad e => rfl
          | ok k t to d' =>
            show TP.tok k t _ :: toksF _ f _ d' = _
            rw [toksF_shift n hv f to d']; rfl
theorem toksT_skip (n : Nat) {l : List UInt8} (hv : validD (List.replicate n 32 ++ l) = true) (d : Nat) : ∀ k, k ≤ n → toksT (List.replicate n 32 ++ l) 0 d = toksT (List.replicate n 32 ++ l) k d
  | 0, _ => rfl
  | k + 1, hk => by
    rw [toksT_skip n hv d k (by omega)]
    refine toksT_blank hv (by simp; omega) ?_
    unfold isB
    rw [getD_left _ _ _ (by simp; omega), decide_eq_true (by simp; omega)]
    have hx : (List.replicate n (32 : UInt8)).getD k 0 = 32 := by
      rw [List.getD, List.getElem?_replicate, if_pos (by omega)]; rfl
    rw [hx]; rfl
theorem runes_blank (l : List UInt8) : runes (32 :: l) = 32 :: runes l := by
  rw [runes_step (32 :: l) (by simp), decodeL_ascii 32 l (by decide)]; rfl
theorem runes_blanks (n : Nat) (l : List UInt8) : (runes (List.replicate n 32 ++ l)).all plainRune = (runes l).all plainRune := by
  induction n with
  | zero => rfl
  | succ n ih => rw [List.replicate_succ, List.cons_append, runes_blank, List.all_cons, ih]; rfl
theorem badOf_shift (n : Nat) : ∀ ps : List TP, badOf (ps.map (shTP n)) = (badOf ps).map fun x => (x.1, n + x.2)
  | [] => rfl
  | .tok _ _ _ :: r => badOf_shift n r
  | .bad _ _ :: _ => rfl
def shTk (n : Nat) (t : Tk) : Tk := ⟨t.kind, t.str, n + t.at_⟩
theorem map_shift (n : Nat) : ∀ ps : List TP, badOf ps = none → (ps.map (shTP n)).map tkOf = (ps.map tkOf).map (shTk n)
  | [], _ => rfl
  | .tok k t p :: r, h => by
    simp only [List.map_cons]
    rw [map_shift n r h]; rfl
  | .bad _ _ :: _, h => by cases h
theorem valid_ahead (n : Nat) (l : List UInt8) : validD (List.replicate n 32 ++ l) = validD l := valid_app _ _ l (Nat.le_refl _) (valid_blanks n)
/-- With blanks ahead. -/
theorem readT_moves (n : Nat) (l : List UInt8) : readT (List.replicate n 32 ++ l) = ((readT l).1.map (shTk n), if validD l ∧ (runes l).all plainRune ∧ (readT l).2.2 ≠ 0 then n + (readT l).2.1 else (readT l).2.1, (readT l).2.2) := by
  unfold readT
  rw [valid_ahead, runes_blanks]
  by_cases hv : validD l = true
  · rw [if_pos hv, if_pos hv]
    by_cases hp : (runes l).all plainRune = true
    · rw [if_pos hp, if_pos hp, toksT_skip n (by rw [valid_ahead]; exact hv) 0 n (Nat.le_refl _)]
      have hv2 : validD (List.replicate n 32 ++ l) = true := by rw [valid_ahead]; exact hv
      have h1 := toksF_shift n hv (l.length + 1) 0 0
      rw [List.length_replicate] at h1
      rw [toksT_fuel hv2 (p := n) (f := l.length + 1) 0 (by simp; omega), show toksF (List.replicate n 32 ++ l) (l.length + 1) n 0 = _ from h1, fold_bad, fold_bad, badOf_shift, toksT_fuel hv (f := l.length + 1) 0 (by omega)]
      cases hb : badOf (toksF l (l.length + 1) 0 0) with
      | none => simp [map_shift n _ hb]
      | some x =>
        obtain ⟨e, p⟩ := x
        have := badOf_is hv _ _ _ _ _ hb
        simp [hv, hp]
        omega
    · rw [if_neg hp, if_neg hp]; simp [hp]
  · rw [if_neg hv, if_neg hv]; simp [hv]
end Go.Proofs.YtiinnnbpbnojgaaGreatDoor

/- What is proved: a note behind a line, and a blank, changes no piece; no program stands in it. -/
namespace Go.Proofs.YtiinnnbpbnojgaaGreatDoor
open Go Go.RowKit Go.Lib
set_option linter.unusedSimpArgs false
set_option linter.unusedVariables false

/-- A line with a note behind it. -/
def noted (l m : List UInt8) : List UInt8 := l ++ 32 :: (35 :: m)
theorem noted_len (l m : List UInt8) : (noted l m).length = l.length + 2 + m.length := by unfold noted; simp; omega
theorem noted_at {l : List UInt8} (m : List UInt8) {p : Nat} (h : p < l.length) : (noted l m).getD p 0 = l.getD p 0 := getD_left _ _ _ h
theorem noted_0 (l m : List UInt8) : (noted l m).getD l.length 0 = 32 := by
  have := getD_right l (32 :: 35 :: m) 0
  simp [noted] at this ⊢
theorem noted_1 (l m : List UInt8) : (noted l m).getD (l.length + 1) 0 = 35 := by
  have := getD_right l (32 :: 35 :: m) 1
  simp [noted]
theorem isB_n {l : List UInt8} (m : List UInt8) {p : Nat} (h : p < l.length) (bs : List UInt8) : isB (noted l m) p bs = isB l p bs := by
  unfold isB
  rw [noted_at m h, noted_len, decide_eq_true (show p < l.length + 2 + m.length by omega), decide_eq_true h]
theorem isB_n0 (l m : List UInt8) (bs : List UInt8) : isB (noted l m) l.length bs = amongB bs 32 := by
  unfold isB
  rw [noted_0, noted_len, decide_eq_true (by omega)]; rfl
theorem isB_end (l : List UInt8) (bs : List UInt8) {p : Nat} (h : l.length ≤ p) : isB l p bs = false := by
  unfold isB
  rw [decide_eq_false (by omega)]; rfl
theorem blankB_n {l : List UInt8} (m : List UInt8) {p : Nat} (h : p ≤ l.length) : blankB (noted l m) p = blankB l p := by
  rcases Nat.lt_or_ge p l.length with h1 | h1
  · unfold blankB
    rw [isB_n m h1, noted_len, decide_eq_false (show ¬ l.length + 2 + m.length ≤ p by omega), decide_eq_false (by omega)]
  · obtain rfl : p = l.length := by omega
    unfold blankB
    rw [isB_n0]
    simp [amongB]
theorem closedB_n {l : List UInt8} (m : List UInt8) {p : Nat} (d : Nat) (h : p ≤ l.length) : closedB (noted l m) p d = closedB l p d := by
  unfold closedB
  rw [blankB_n m h]
  rcases Nat.lt_or_ge p l.length with h1 | h1
  · rw [isB_n m h1]
  · obtain rfl : p = l.length := by omega
    rw [isB_n0, isB_end l _ h1]
    rfl
theorem noteB_n {l : List UInt8} (m : List UInt8) {p : Nat} (h : p < l.length) : noteB (noted l m) p = noteB l p := by
  unfold noteB
  rw [isB_n m h, isB_n m (by omega)]
theorem endB_n {l : List UInt8} (m : List UInt8) {p : Nat} (d : Nat) (h : p < l.length) : endB (noted l m) p d = endB l p d := by
  unfold endB
  rw [isB_n m h, isB_n m h, noteB_n m h, closedB_n m d (by omega), noted_len, decide_eq_false (show ¬ l.length + 2 + m.length ≤ p by omega), decide_eq_false (show ¬ l.length ≤ p by omega)]
theorem endB_n0 (l m : List UInt8) (d : Nat) : endB (noted l m) l.length d = false := by
  unfold endB noteB
  rw [isB_n0, isB_n0, isB_n0, noted_len, decide_eq_false (by omega)]
  have h1 : amongB [35] 32 = false := rfl
  have h2 : amongB [58] 32 = false := rfl
  have h3 : amongB flowL 32 = false := rfl
  rw [h1, h2, h3]
  simp
theorem endB_n1 (l m : List UInt8) (d : Nat) : endB (noted l m) (l.length + 1) d = true := by
  have h1 : isB (noted l m) (l.length + 1) [35] = true := by
    unfold isB
    rw [noted_1, noted_len, decide_eq_true (by omega)]; rfl
  unfold endB noteB
  rw [h1, show l.length + 1 - 1 = l.length by omega, isB_n0]
  have h2 : amongB [32] 32 = true := rfl
  rw [h2]
  simp
theorem endP_n {l : List UInt8} (m : List UInt8) (d : Nat) : ∀ (f p : Nat), l.length - p ≤ f → p ≤ l.length → (endP l p d < l.length ∧ endP (noted l m) p d = endP l p d) ∨ (endP l p d = l.length ∧ endP (noted l m) p d = l.length + 1)
  | 0, p, hf, hp => by
    obtain rfl : p = l.length := by omega
    refine .inr ⟨?_, ?_⟩
    · exact endP_end (by unfold endB; simp)
    · rw [endP_step (endB_n0 l m d), endP_end (endB_n1 l m d)]
  | f + 1, p, hf, hp => by
    rcases Nat.lt_or_ge p l.length with h1 | h1
    · cases he : endB l p d with
      | true =>
        have he' : endB (noted l m) p d = true := by rw [endB_n m d h1]; exact he
        rw [endP_end he, endP_end he']
        exact .inl ⟨h1, rfl⟩
      | false =>
        have he' : endB (noted l m) p d = false := by rw [endB_n m d h1]; exact he
        rw [endP_step he, endP_step he']
        exact endP_n m d f (p + 1) (by omega) (by omega)
    · exact endP_n m d 0 p (by omega) hp
theorem trimR_snoc (l : List UInt8) : trimR (l ++ [32]) = trimR l := by
  unfold trimR; simp
/-- The same piece, or one that ends at the end. -/
def SameR (n : Nat) (x y : TR) : Prop := x = y ∨ ∃ k t d, x = .ok k t n d ∧ y = .ok k t (n + 1) d
theorem plainT_n {l : List UInt8} (m : List UInt8) {p : Nat} (d : Nat) (h : p < l.length) : SameR l.length (plainT l p d) (plainT (noted l m) p d) := by
  unfold plainT
  rcases endP_n m d (l.length - p) p (Nat.le_refl _) (by omega) with ⟨h1, h2⟩ | ⟨h1, h2⟩
  · rw [h2]
    have : ((noted l m).take (endP l p d)).drop p = (l.take (endP l p d)).drop p := by
      unfold noted
      rw [List.take_append_of_le_length (by omega)]
    rw [this]
    exact .inl rfl
  · rw [h1, h2]
    have h3 : ((noted l m).take (l.length + 1)).drop p = (l.take l.length).drop p ++ [32] := by
      unfold noted
      rw [List.take_append, List.take_of_length_le (show l.length ≤ l.length + 1 by omega), List.take_length, show l.length + 1 - l.length = 1 by omega, List.drop_append_of_le_length (by omega)]
      rfl
    rw [h3, trimR_snoc]
    split
    · exact .inr ⟨_, _, _, rfl, rfl⟩
    · exact .inl rfl
theorem nameOf_n {l : List UInt8} (m : List UInt8) {p : Nat} (h : p < l.length) : nameOf (noted l m) p = nameOf l p := by
  unfold nameOf noted
  rw [List.drop_append_of_le_length (by omega), List.takeWhile_append]
  split
  · rename_i he
    rw [show List.takeWhile signB (32 :: 35 :: m) = [] from rfl, List.append_nil]
    exact (List.IsPrefix.eq_of_length (List.takeWhile_prefix _) he).symm
  · rfl
theorem name_le (l : List UInt8) {p : Nat} (h : p < l.length) : p + 1 + (nameOf l p).length ≤ l.length := by
  have hle : (nameOf l p).length ≤ (l.drop (p + 1)).length := (List.takeWhile_prefix _).length_le
  rw [List.length_drop] at hle
  omega
theorem oneT_n {l : List UInt8} (m : List UInt8) {p : Nat} (d : Nat) (hv : validD l = true) (hm : validD m = true) (h : p < l.length) : oneT l p d = .bad 42 ∨ SameR l.length (oneT l p d) (oneT (noted l m) p d) := by
  unfold oneT
  rw [noted_at m h]
  unfold oneC
  split
  · rename_i hc
    obtain ⟨q, hq, hq8⟩ := quoteB_of h hc
    unfold quotedT
    by_cases h42 : (readQ ⟨l.toArray⟩ p).2.2 = 42
    · left
      rw [if_neg (by omega), h42]; rfl
    · right
      have hr := readQ_app (m := 35 :: m) (c := 32) (.inl rfl) hq hv (by rw [validD_cons _ _ (by decide), validD_cons _ _ (by decide)]; exact hm) h42
      rw [show (noted l m) = l ++ 32 :: (35 :: m) from rfl, hr]
      left
      by_cases he : (readQ ⟨l.toArray⟩ p).2.2 = 0
      · have ht := readQ_to hq hq8 hv he
        rw [if_pos he, if_pos he, show l ++ 32 :: (35 :: m) = noted l m from rfl, closedB_n m d ht.2]
        have : isB (noted l m) (readQ ⟨l.toArray⟩ p).2.1 [58] = isB l (readQ ⟨l.toArray⟩ p).2.1 [58] := by
          rcases Nat.lt_or_ge (readQ ⟨l.toArray⟩ p).2.1 l.length with h1 | h1
          · exact isB_n m h1 _
          · have h2 : (readQ ⟨l.toArray⟩ p).2.1 = l.length := by omega
            rw [h2, isB_n0, isB_end l _ (Nat.le_refl _)]; rfl
        rw [this]
      · rw [if_neg he, if_neg he]
  · right
    split
    · left
      unfold namedT
      rw [nameOf_n m h, isB_n m h, closedB_n m d (name_le l h)]
    · split
      · unfold dashT
        rw [blankB_n m (by omega)]
        split
        · exact .inl rfl
        · exact plainT_n m d h
      · split
        · unfold colonT
          rw [closedB_n m d (by omega)]
          split
          · exact .inl rfl
          · exact plainT_n m d h
        · split
          · exact .inl rfl
          · split
            · exact .inl rfl
            · exact plainT_n m d h
theorem noted_valid {l m : List UInt8} (hv : validD l = true) (hm : validD m = true) : validD (noted l m) = true := by
  unfold noted
  rw [valid_app _ l _ (Nat.le_refl _) hv, validD_cons _ _ (by decide), validD_cons _ _ (by decide)]
  exact hm
theorem toksT_n1 {l m : List UInt8} (hv : validD l = true) (hm : validD m = true) (d : Nat) : toksT (noted l m) (l.length + 1) d = [] := by
  refine toksT_note (noted_valid hv hm) (by rw [noted_len]; omega) ?_ ?_
  · unfold isB; rw [noted_1]; simp [amongB]
  · unfold noteB isB
    rw [noted_1, show l.length + 1 - 1 = l.length by omega, noted_0, noted_len, decide_eq_true (by omega), decide_eq_true (by omega)]
    simp [amongB]
theorem toksT_n0 {l m : List UInt8} (hv : validD l = true) (hm : validD m = true) (d : Nat) : toksT (noted l m) l.length d = [] := by
  rw [toksT_blank (noted_valid hv hm) (by rw [noted_len]; omega) (by rw [isB_n0]; rfl)]
  exact toksT_n1 hv hm d
theorem toksT_n {l m : List UInt8} (hv : validD l = true) (hm : validD m = true) : ∀ (f p d : Nat), l.length - p ≤ f → p ≤ l.length → (∃ p', badOf (toksT l p d) = some (42, p')) ∨ toksT (noted l m) p d = toksT l p d
  | 0, p, d, hf, hp => by
    obtain rfl : p = l.length := by omega
    rw [toksT_n0 hv hm, toksT_end d (Nat.le_refl _)]
    exact .inr rfl
  | f + 1, p, d, hf, hp => by
    rcases Nat.lt_or_ge p l.length with h1 | h1
    · have h2 : p < (noted l m).length := by rw [noted_len]; omega
      have hN := noted_valid (l := l) (m := m) hv hm
      cases hb : isB l p [32] with
      | true =>
        rw [toksT_blank hv h1 hb, toksT_blank hN h2 (by rw [isB_n m h1]; exact hb)]
        exact toksT_n hv hm f (p + 1) d (by omega) (by omega)
      | false =>
        cases hn : noteB l p with
        | true =>
          rw [toksT_note hv h1 hb hn, toksT_note hN h2 (by rw [isB_n m h1]; exact hb) (by rw [noteB_n m h1]; exact hn)]
          exact .inr rfl
        | false =>
          have hb' : isB (noted l m) p [32] = false := by rw [isB_n m h1]; exact hb
          have hn' : noteB (noted l m) p = false := by rw [noteB_n m h1]; exact hn
          rcases oneT_n m d hv hm h1 with ho | ho
          · rw [toksT_bad hv h1 hb hn ho]
            exact .inl ⟨p, rfl⟩
          · rcases ho with ho | ⟨k, t, d', ho, ho'⟩
            · cases hx : oneT l p d with
              | bad e =>
                rw [toksT_bad hv h1 hb hn hx, toksT_bad hN h2 hb' hn' (ho ▸ hx)]
                exact .inr rfl
              | ok k t to d' =>
                have hk := oneT_ok hv h1 hx
                rw [toksT_ok hv h1 hb hn hx, toksT_ok hN h2 hb' hn' (ho ▸ hx)]
                rcases toksT_n hv hm f to d' (by have := hk.1; omega) hk.2.1 with h3 | h3
                · exact .inl h3
                · rw [h3]; exact .inr rfl
            · rw [toksT_ok hv h1 hb hn ho, toksT_ok hN h2 hb' hn' ho', toksT_n1 hv hm, toksT_end d' (Nat.le_refl _)]
              exact .inr rfl
    · exact toksT_n hv hm 0 p d (by omega) hp

/-! ### right texts -/
theorem runes_app : ∀ (n : Nat) (l m : List UInt8), l.length ≤ n → validD l = true → runes (l ++ m) = runes l ++ runes m
  | n, [], m, _, _ => rfl
  | 0, c :: t, m, h, _ => by simp at h
  | n + 1, c :: t, m, h, hv => by
    have hne : c :: t ≠ [] := by simp
    have hw := decodeL_width (c :: t)
    rw [runes_step (c :: t ++ m) (by simp), runes_step (c :: t) hne, decode_app _ m hne hv, List.drop_append_of_le_length (decodeL_le _ hne), runes_app n _ m (by rw [List.length_drop]; simp at h ⊢; omega) (valid_drop _ hne hv)]
    rfl
/-- What stands ahead of a byte below 128, in a right text, is right. -/
theorem valid_ahead_of (c : UInt8) (hc : c.toNat < 128) (m : List UInt8) : ∀ (n : Nat) (l : List UInt8), l.length ≤ n → validD (l ++ c :: m) = true → validD l = true
  | _, [], _, _ => rfl
  | 0, d :: t, h, _ => by simp at h
  | n + 1, d :: t, h, hv => by
    have hne : d :: t ++ c :: m ≠ [] := by simp
    have hb : ¬ ((decodeL (d :: t ++ c :: m)).1 = 65533 ∧ (decodeL (d :: t ++ c :: m)).2 = 1) := fun h => by rw [validD_step _ hne, if_pos h] at hv; cases hv
    have he := encode_decode _ hne hb
    have hvr := validRune_dec _ hne hb
    have hw := decodeL_width (d :: t ++ c :: m)
    have hle := decodeL_le _ hne
    have hk : (decodeL (d :: t ++ c :: m)).2 ≤ (d :: t).length := by
      rcases Nat.lt_or_ge (d :: t).length (decodeL (d :: t ++ c :: m)).2 with h1 | h1
      · exfalso
        have hmem : c ∈ encodeRune ((decodeL (d :: t ++ c :: m)).1 : Int) := by
          rw [he, List.take_append]
          obtain ⟨j, hj⟩ : ∃ j, (decodeL (d :: t ++ c :: m)).2 - (d :: t).length = j + 1 := ⟨_, (Nat.succ_pred (by omega)).symm⟩
          rw [hj, List.take_succ_cons]
          simp
        by_cases h2 : 128 ≤ ((decodeL (d :: t ++ c :: m)).1 : Int)
        · have := enc_high _ h2 c hmem
          omega
        · have hd : d.toNat < 128 := by
            rcases Nat.lt_or_ge d.toNat 128 with h3 | h3
            · exact h3
            · have := rune_high d (t ++ c :: m) h3
              simp only [List.cons_append] at h2
              omega
          rw [List.cons_append, decodeL_ascii d _ hd] at h1
          simp at h1
      · exact h1
    have hsg : signP ((decodeL (d :: t ++ c :: m)).1 : Int) = true := by
      unfold Lib.validRune at hvr
      rw [decide_eq_true_eq] at hvr
      rw [signP_iff]; omega
    have hx := dec_enc _ hsg ((d :: t).drop (decodeL (d :: t ++ c :: m)).2)
    rw [he, List.take_append_of_le_length hk, List.take_append_drop, List.length_take, Nat.min_eq_left hk] at hx
    have hv2 := valid_drop _ hne hv
    rw [List.drop_append_of_le_length hk] at hv2
    have ih := valid_ahead_of c hc m n _ (by rw [List.length_drop]; have h2 : (d :: t).length ≤ n + 1 := h; omega) hv2
    rw [validD_step (d :: t) (by simp), hx, if_neg (by simpa using hb)]
    simpa using ih
theorem noted_right (l m : List UInt8) (hm : validD m = true) : validD (noted l m) = validD l := by
  cases hv : validD l with
  | true => exact noted_valid hv hm
  | false =>
    cases h : validD (noted l m) with
    | false => rfl
    | true =>
      rw [valid_ahead_of 32 (by decide) (35 :: m) _ l (Nat.le_refl _) h] at hv; cases hv
theorem runes_ascii (c : UInt8) (l : List UInt8) (h : c.toNat < 128) : runes (c :: l) = c.toNat :: runes l := by
  rw [runes_step (c :: l) (by simp), decodeL_ascii c l h]; rfl
theorem noted_plain {l m : List UInt8} (hv : validD l = true) (hp : (runes m).all plainRune = true) : (runes (noted l m)).all plainRune = (runes l).all plainRune := by
  unfold noted
  rw [runes_app _ l _ (Nat.le_refl _) hv, runes_ascii _ _ (by decide), runes_ascii _ _ (by decide), List.all_append, List.all_cons, List.all_cons, hp]
  have h1 : plainRune (32 : UInt8).toNat = true := rfl
  have h2 : plainRune (35 : UInt8).toNat = true := rfl
  rw [h1, h2]
  simp
theorem readT_err (l : List UInt8) : ((readT l).2.2 = 40 ↔ validD l = false) ∧ ((readT l).2.2 = 80 ↔ (validD l = true ∧ (runes l).all plainRune = false)) := by
  unfold readT
  by_cases hv : validD l = true
  · by_cases hp : (runes l).all plainRune = true
    · rw [if_pos hv, if_pos hp, fold_bad]
      cases hb : badOf (toksT l 0 0) with
      | none => simp [hv, hp]
      | some x =>
        obtain ⟨e, p⟩ := x
        have := badOf_is hv _ _ _ _ _ hb
        simp [hv, hp]
        omega
    · rw [if_pos hv, if_neg hp]; simp [hv, hp]
  · rw [if_neg hv]; simp [hv]
/-- A note behind. -/
theorem readT_noted (l m : List UInt8) (h40 : (readT m).2.2 ≠ 40) (h80 : (readT m).2.2 ≠ 80) : (readT l).2.2 = 42 ∧ (readT l).1 = [] ∨ readT (noted l m) = readT l := by
  have hm : validD m = true := by
    cases h : validD m with
    | true => rfl
    | false => exact absurd ((readT_err m).1.2 h) h40
  have hp : (runes m).all plainRune = true := by
    cases h : (runes m).all plainRune with
    | true => rfl
    | false => exact absurd ((readT_err m).2.2 ⟨hm, h⟩) h80
  unfold readT
  rw [noted_right l m hm]
  by_cases hv : validD l = true
  · rw [if_pos hv, if_pos hv, noted_plain hv hp]
    by_cases hq : (runes l).all plainRune = true
    · rw [if_pos hq, if_pos hq]
      rcases toksT_n hv hm _ 0 0 (Nat.le_refl _) (by omega) with ⟨p', h⟩ | h
      · left; rw [fold_bad, h]; exact ⟨rfl, rfl⟩
      · right; rw [h]
    · rw [if_neg hq, if_neg hq]; exact .inr rfl
  · rw [if_neg hv, if_neg hv]; exact .inr rfl
end Go.Proofs.YtiinnnbpbnojgaaGreatDoor
