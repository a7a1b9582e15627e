import Derived.Test.YtiinnnbpbnojgaaGreatDoorQh
/- What is proved: package tok's Read as a function on lists of bytes: where pieces end, what a piece is, that places go on; no program stands in it. -/
namespace Go.Proofs.YtiinnnbpbnojgaaGreatDoor
open Go Go.RowKit Go.Lib
set_option linter.unusedSimpArgs false
set_option linter.unusedVariables false

/-- Does one of some bytes stand at a place? -/
def isB (l : List UInt8) (i : Nat) (bs : List UInt8) : Bool := decide (i < l.length) && amongB bs (l.getD i 0)
def blankB (l : List UInt8) (i : Nat) : Bool := decide (l.length ≤ i) || isB l i [32]
def noteB (l : List UInt8) (i : Nat) : Bool := isB l i [35] && (i == 0 || isB l (i - 1) [32])
def closedB (l : List UInt8) (i d : Nat) : Bool := blankB l i || (decide (0 < d) && isB l i flowL)
/-- Does a plain piece end at a place? -/
def endB (l : List UInt8) (i d : Nat) : Bool := decide (l.length ≤ i) || (noteB l i || ((isB l i [58] && closedB l (i + 1) d) || (decide (0 < d) && isB l i flowL)))
def endF (l : List UInt8) (d : Nat) : Nat → Nat → Nat
  | 0, p => p
  | f + 1, p => if endB l p d then p else endF l d f (p + 1)
def endP (l : List UInt8) (p d : Nat) : Nat := endF l d (l.length - p) p
/-- May a byte be one of a name? -/
def signB (c : UInt8) : Bool := (decide (65 ≤ c.toNat) && decide (c.toNat ≤ 90)) || ((decide (97 ≤ c.toNat) && decide (c.toNat ≤ 122)) || (isDigB c || (c.toNat == 95 || c.toNat == 45)))
def nameB (l : List UInt8) : Bool := l.all signB && (!l.isEmpty && decide (l.length ≤ 20))
/-- A text without the blanks at its end. -/
def trimR (l : List UInt8) : List UInt8 := (l.reverse.dropWhile (· == 32)).reverse

/-- What one piece is: its kind, its text, the place behind, how deep; or what is wrong. -/
inductive TR
  | ok (k : Nat) (t : List UInt8) (to d : Nat)
  | bad (e : Nat)
deriving Inhabited

def plainT (l : List UInt8) (p d : Nat) : TR :=
  if mayP (trimR ((l.take (endP l p d)).drop p)) (decide (0 < d)) then .ok 1 (trimR ((l.take (endP l p d)).drop p)) (endP l p d) d else .bad 51
def quotedT (l : List UInt8) (p d : Nat) : TR :=
  if (readQ ⟨l.toArray⟩ p).2.2 = 0 then
    (if closedB l (readQ ⟨l.toArray⟩ p).2.1 d || isB l (readQ ⟨l.toArray⟩ p).2.1 [58] then .ok 2 (readQ ⟨l.toArray⟩ p).1 (readQ ⟨l.toArray⟩ p).2.1 d else .bad 90)
  else .bad (readQ ⟨l.toArray⟩ p).2.2.toNat
def nameOf (l : List UInt8) (p : Nat) : List UInt8 := (l.drop (p + 1)).takeWhile signB
def namedT (l : List UInt8) (p d : Nat) : TR :=
  if nameB (nameOf l p) && closedB l (p + 1 + (nameOf l p).length) d then .ok (if isB l p [42] then 4 else 3) (nameOf l p) (p + 1 + (nameOf l p).length) d else .bad 90
def dashT (l : List UInt8) (p d : Nat) : TR := if blankB l (p + 1) then (if 0 < d then .bad 90 else .ok 5 [] (p + 1) d) else plainT l p d
def colonT (l : List UInt8) (p d : Nat) : TR := if closedB l (p + 1) d then .ok 6 [] (p + 1) d else plainT l p d
def insideT (c : UInt8) (p d : Nat) : TR := if d = 0 then .bad 90 else if c = 44 then .ok 7 [] (p + 1) d else .ok (if c = 93 then 9 else 11) [] (p + 1) (d - 1)
def oneC (l : List UInt8) (p d : Nat) (c : UInt8) : TR :=
  if c = 34 ∨ c = 39 then quotedT l p d
  else if c = 38 ∨ c = 42 then namedT l p d
  else if c = 45 then dashT l p d
  else if c = 58 then colonT l p d
  else if c = 91 ∨ c = 123 then .ok (if c = 91 then 8 else 10) [] (p + 1) (d + 1)
  else if c = 44 ∨ c = 93 ∨ c = 125 then insideT c p d
  else plainT l p d
def oneT (l : List UInt8) (p d : Nat) : TR := oneC l p d (l.getD p 0)

/-- What is met: a piece, with its place; or a mistake, with its place. -/
inductive TP
  | tok (k : Nat) (t : List UInt8) (p : Nat)
  | bad (e p : Nat)
deriving Inhabited
def toksF (l : List UInt8) : Nat → Nat → Nat → List TP
  | 0, _, _ => []
  | f + 1, p, d =>
    if l.length ≤ p then [] else if isB l p [32] then toksF l f (p + 1) d else if noteB l p then [] else
      match oneT l p d with
      | .ok k t to d' => .tok k t p :: toksF l f to d'
      | .bad e => [.bad e p]
def toksT (l : List UInt8) (p d : Nat) : List TP := toksF l (l.length + 1 - p) p d
/-- A piece. -/
structure Tk where
  kind : Nat
  str : List UInt8
  at_ : Nat
deriving DecidableEq
def foldT : List TP → List Tk → List Tk × Nat × Nat
  | [], acc => (acc, 0, 0)
  | .tok k t p :: r, acc => foldT r (acc ++ [⟨k, t, p⟩])
  | .bad e p :: _, _ => ([], p, e)
/-- Package tok's Read. -/
def readT (l : List UInt8) : List Tk × Nat × Nat :=
  if validD l then (if (runes l).all plainRune then foldT (toksT l 0 0) [] else ([], 0, 80)) else ([], 0, 40)

theorem endF_le (l : List UInt8) (d : Nat) : ∀ f p, p ≤ endF l d f p ∧ endF l d f p ≤ p + f
  | 0, p => by simp [endF]
  | f + 1, p => by
    unfold endF
    split
    · omega
    · have := endF_le l d f (p + 1); omega
theorem endP_le {l : List UInt8} {p : Nat} (d : Nat) (h : p ≤ l.length) : p ≤ endP l p d ∧ endP l p d ≤ l.length := by
  have := endF_le l d (l.length - p) p
  unfold endP
  omega
theorem endF_fuel (l : List UInt8) (d : Nat) : ∀ f g p, l.length - p ≤ f → l.length - p ≤ g → endF l d f p = endF l d g p
  | 0, 0, _, _, _ => rfl
  | 0, g + 1, p, hf, _ => by
    unfold endF
    rw [if_pos (by unfold endB; simp; left; omega)]
  | f + 1, 0, p, _, hg => by
    unfold endF
    rw [if_pos (by unfold endB; simp; left; omega)]
  | f + 1, g + 1, p, hf, hg => by
    unfold endF
    split
    · rfl
    · exact endF_fuel l d f g (p + 1) (by omega) (by omega)
theorem endP_end {l : List UInt8} {p d : Nat} (h : endB l p d = true) : endP l p d = p := by
  unfold endP
  cases hn : l.length - p with
  | zero => rfl
  | succ n => unfold endF; rw [if_pos h]
theorem endP_step {l : List UInt8} {p d : Nat} (h : endB l p d = false) : endP l p d = endP l (p + 1) d := by
  have hp : p < l.length := by
    rcases Nat.lt_or_ge p l.length with h1 | h1
    · exact h1
    · unfold endB at h; simp at h; omega
  unfold endP
  obtain ⟨n, hn⟩ : ∃ n, l.length - p = n + 1 := ⟨l.length - p - 1, by omega⟩
  rw [hn]
  show (if endB l p d = true then p else endF l d n (p + 1)) = _
  rw [h, if_neg (by decide)]
  exact endF_fuel l d _ _ _ (by omega) (by omega)

theorem plainT_ok {l : List UInt8} {p d k to d' : Nat} {t : List UInt8} (hp : p ≤ l.length) (h : plainT l p d = .ok k t to d') : k = 1 ∧ d' = d ∧ to = endP l p d ∧ t = trimR ((l.take to).drop p) ∧ mayP t (decide (0 < d)) = true ∧ p < to ∧ to ≤ l.length := by
  have he := endP_le d hp
  unfold plainT at h
  split at h
  · rename_i hm
    injection h with h1 h2 h3 h4
    subst h1 h2 h3 h4
    refine ⟨rfl, rfl, rfl, rfl, hm, ?_, he.2⟩
    rcases Nat.lt_or_ge p (endP l p d) with h1 | h1
    · exact h1
    · have h2 : endP l p d = p := by omega
      rw [h2, List.drop_take, Nat.sub_self, List.take_zero] at hm
      cases hm
  · cases h
end Go.Proofs.YtiinnnbpbnojgaaGreatDoor

/- What is proved: package quote's Read on lists of bytes: it says the same in a longer text, and further on; no program stands in it. -/
namespace Go.Proofs.YtiinnnbpbnojgaaGreatDoor
open Go Go.RowKit Go.Lib
set_option linter.unusedSimpArgs false
set_option linter.unusedVariables false

def shQ (n : Nat) : QP → QP
  | .sign r to => .sign r (n + to)
  | .fin to => .fin (n + to)
  | .bad e => .bad e
theorem shQ_shQ (a b : Nat) (p : QP) : shQ a (shQ b p) = shQ (a + b) p := by
  cases p <;> simp [shQ, Nat.add_assoc]
def runeL (l : List UInt8) : Int := if l = [] then 65533 else ((decodeL l).1 : Int)
theorem runeAt_L (s : ByteArray) (i : Nat) : runeAt s i = runeL (s.data.toList.drop i) := by
  rcases Nat.lt_or_ge i s.size with h | h
  · rw [runeAt_lt s i h, ← Lib.decodeL_drop]
    unfold runeL
    rw [if_neg (drop_ne s i h)]
  · rw [runeAt_ge s i h, List.drop_eq_nil_of_le (by rw [← Lib.size_eq]; exact h)]
    rfl
def numLq (l : List UInt8) (k : Nat) : QP := match numL l k with
  | some v => .sign v k
  | none => .bad 41
theorem numQ_L (s : ByteArray) (p k : Nat) : numQ s p k = shQ p (numLq (s.data.toList.drop p) k) := by
  unfold numQ numLq
  cases numL (s.data.toList.drop p) k <;> rfl
def escL (l : List UInt8) : QP :=
  if l.length = 0 then .bad 41
  else if memB [34, 92, 47] (runeL l) then .sign (runeL l) 1
  else if runeL l = 48 then .sign 0 1
  else if runeL l = 120 then shQ 1 (numLq (l.drop 1) 2)
  else if runeL l = 117 then shQ 1 (numLq (l.drop 1) 4)
  else match shortQ (runeL l) with
  | some y => .sign y 1
  | none => .bad 41
theorem drop_len (s : ByteArray) (i : Nat) : (s.data.toList.drop i).length = s.size - i := by rw [List.length_drop, ← Lib.size_eq]
theorem escQ_L (s : ByteArray) (p : Nat) : escQ s p = shQ p (escL (s.data.toList.drop p)) := by
  unfold escQ escX escL
  rw [runeAt_L, drop_len, numQ_L, numQ_L, ← List.drop_drop]
  by_cases h : s.size ≤ p
  · have h2 : s.size - p = 0 := by omega
    rw [if_pos h, if_pos h2]; rfl
  · have h2 : ¬ s.size - p = 0 := by omega
    rw [if_neg h, if_neg h2]
    by_cases h3 : memB [34, 92, 47] (runeL (s.data.toList.drop p)) = true
    · rw [if_pos h3, if_pos h3]; rfl
    · rw [if_neg h3, if_neg h3]
      by_cases h4 : runeL (s.data.toList.drop p) = 48
      · rw [if_pos h4, if_pos h4]; rfl
      · rw [if_neg h4, if_neg h4]
        by_cases h5 : runeL (s.data.toList.drop p) = 120
        · rw [if_pos h5, if_pos h5]; rw [shQ_shQ]
        · rw [if_neg h5, if_neg h5]
          by_cases h6 : runeL (s.data.toList.drop p) = 117
          · rw [if_pos h6, if_pos h6]; rw [shQ_shQ]
          · rw [if_neg h6, if_neg h6]
            cases shortQ (runeL (s.data.toList.drop p)) <;> rfl
def oneL (q : Int) (l : List UInt8) : QP :=
  if l.length = 0 then .bad 42
  else if runeL l = q then (if runeL l = 39 ∧ runeL (l.drop 1) = 39 ∧ 1 < l.length then .sign 39 2 else .fin 1)
  else if runeL l = 92 ∧ q = 34 then shQ 1 (escL (l.drop 1))
  else if plainN (runeL l) then .sign (runeL l) (decodeL l).2 else .bad 42
theorem oneQ_L (s : ByteArray) (q : Int) (i : Nat) : oneQ s q i = shQ i (oneL q (s.data.toList.drop i)) := by
  unfold oneQ oneX oneL
  rw [runeAt_L, runeAt_L, ← Lib.decodeL_drop, drop_len, escQ_L, List.drop_drop]
  by_cases h : s.size ≤ i
  · have h2 : s.size - i = 0 := by omega
    rw [if_pos h, if_pos h2]; rfl
  · have h2 : ¬ s.size - i = 0 := by omega
    rw [if_neg h, if_neg h2]
    by_cases h3 : runeL (s.data.toList.drop i) = q
    · rw [if_pos h3, if_pos h3]
      by_cases h4 : runeL (s.data.toList.drop i) = 39 ∧ runeL (s.data.toList.drop (i + 1)) = 39 ∧ i + 1 < s.size
      · rw [if_pos h4, if_pos ⟨h4.1, h4.2.1, by omega⟩]; rfl
      · rw [if_neg h4, if_neg (fun h5 => h4 ⟨h5.1, h5.2.1, by omega⟩)]; rfl
    · rw [if_neg h3, if_neg h3]
      by_cases h4 : runeL (s.data.toList.drop i) = 92 ∧ q = 34
      · rw [if_pos h4, if_pos h4]; rw [shQ_shQ]
      · rw [if_neg h4, if_neg h4]
        by_cases h5 : plainN (runeL (s.data.toList.drop i)) = true
        · rw [if_pos h5, if_pos h5]; rfl
        · rw [if_neg h5, if_neg h5]; rfl
def readL (q : Int) : Nat → List UInt8 → List UInt8 → Nat → List UInt8 × Nat × Int
  | 0, _, _, _ => ([], 0, 42)
  | f + 1, l, acc, n => match oneL q l with
    | .sign r k => readL q f (l.drop k) (acc ++ encodeRune r) (n + k)
    | .fin k => (acc, n + k, 0)
    | .bad e => ([], 0, e)
theorem fold_L (s : ByteArray) (q : Int) : ∀ (f i : Nat) (acc : List UInt8), foldQ (piecesF s q f i) acc = readL q f (s.data.toList.drop i) acc i
  | 0, i, acc => rfl
  | f + 1, i, acc => by
    unfold piecesF readL
    rw [oneQ_L]
    cases oneL q (s.data.toList.drop i) with
    | sign r k =>
      show foldQ (piecesF s q f (i + k)) (acc ++ encodeRune r) = _
      rw [fold_L s q f (i + k), ← List.drop_drop]
    | fin k => rfl
    | bad e => rfl

/-! ### places go on -/
theorem numLq_cases (l : List UInt8) (k : Nat) : (∃ v : Nat, numLq l k = .sign v k) ∨ numLq l k = .bad 41 := by
  unfold numLq
  cases numL l k with
  | some v => exact .inl ⟨v, rfl⟩
  | none => exact .inr rfl
theorem escL_cases (l : List UInt8) : (∃ r k, escL l = .sign r k ∧ 1 ≤ k) ∨ escL l = .bad 41 := by
  unfold escL
  split
  · exact .inr rfl
  · split
    · exact .inl ⟨_, _, rfl, by omega⟩
    · split
      · exact .inl ⟨_, _, rfl, by omega⟩
      · split
        · rcases numLq_cases (l.drop 1) 2 with ⟨v, h⟩ | h
          · rw [h]; exact .inl ⟨_, _, rfl, by omega⟩
          · rw [h]; exact .inr rfl
        · split
          · rcases numLq_cases (l.drop 1) 4 with ⟨v, h⟩ | h
            · rw [h]; exact .inl ⟨_, _, rfl, by omega⟩
            · rw [h]; exact .inr rfl
          · cases shortQ (runeL l) with
            | some y => exact .inl ⟨_, _, rfl, by omega⟩
            | none => exact .inr rfl
theorem oneL_cases (q : Int) (l : List UInt8) : (l ≠ [] ∧ ((∃ r k, oneL q l = .sign r k ∧ 1 ≤ k) ∨ oneL q l = .fin 1 ∨ oneL q l = .bad 41)) ∨ oneL q l = .bad 42 := by
  unfold oneL
  split
  · exact .inr rfl
  · rename_i hne
    have hne : l ≠ [] := fun e => hne (by rw [e]; rfl)
    split
    · split
      · exact .inl ⟨hne, .inl ⟨_, _, rfl, by omega⟩⟩
      · exact .inl ⟨hne, .inr (.inl rfl)⟩
    · split
      · rcases escL_cases (l.drop 1) with ⟨r, k, h, hk⟩ | h
        · rw [h]; exact .inl ⟨hne, .inl ⟨_, _, rfl, by omega⟩⟩
        · rw [h]; exact .inl ⟨hne, .inr (.inr rfl)⟩
      · split
        · exact .inl ⟨hne, .inl ⟨_, _, rfl, decodeL_width l⟩⟩
        · exact .inr rfl
theorem readL_fuel (q : Int) : ∀ (f g : Nat) (l acc : List UInt8) (n : Nat), l.length < f → l.length < g → readL q f l acc n = readL q g l acc n
  | 0, _, _, _, _, h, _ => by omega
  | _ + 1, 0, _, _, _, _, h => by omega
  | f + 1, g + 1, l, acc, n, hf, hg => by
    unfold readL
    rcases oneL_cases q l with ⟨hne, ⟨r, k, h, hk⟩ | h | h⟩ | h
    · rw [h]
      have hl : 0 < l.length := List.length_pos_iff.2 hne
      exact readL_fuel q f g (l.drop k) _ _ (by rw [List.length_drop]; omega) (by rw [List.length_drop]; omega)
    · rw [h]
    · rw [h]
    · rw [h]
/-- further on -/
theorem readL_shift (q : Int) (m : Nat) : ∀ (f : Nat) (l acc : List UInt8) (n : Nat), readL q f l acc (m + n) = ((readL q f l acc n).1, if (readL q f l acc n).2.2 = 0 then m + (readL q f l acc n).2.1 else (readL q f l acc n).2.1, (readL q f l acc n).2.2)
  | 0, l, acc, n => by simp [readL]
  | f + 1, l, acc, n => by
    unfold readL
    rcases oneL_cases q l with ⟨hne, ⟨r, k, h, hk⟩ | h | h⟩ | h
    · rw [h]
      have := readL_shift q m f (l.drop k) (acc ++ encodeRune r) (n + k)
      rw [← Nat.add_assoc] at this
      exact this
    · rw [h]; simp [Nat.add_assoc]
    · rw [h]; simp
    · rw [h]; simp

/-! ### in a longer text -/
theorem decode_app (l m : List UInt8) (hne : l ≠ []) (hv : validD l = true) : decodeL (l ++ m) = decodeL l := by
  have hb : ¬ ((decodeL l).1 = 65533 ∧ (decodeL l).2 = 1) := fun h => by rw [validD_step l hne, if_pos h] at hv; cases hv
  have he := encode_decode l hne hb
  have hvr := validRune_dec l hne hb
  have hsg : signP ((decodeL l).1 : Int) = true := by
    unfold Lib.validRune at hvr
    rw [decide_eq_true_eq] at hvr
    rw [signP_iff]; omega
  have h1 := dec_enc ((decodeL l).1 : Int) hsg (l.drop (decodeL l).2 ++ m)
  rw [he, ← List.append_assoc, List.take_append_drop, List.length_take, Nat.min_eq_left (decodeL_le l hne)] at h1
  rw [h1]
  rfl
theorem valid_drop (l : List UInt8) (hne : l ≠ []) (hv : validD l = true) : validD (l.drop (decodeL l).2) = true := by
  rw [validD_step l hne] at hv
  split at hv
  · cases hv
  · exact hv
theorem valid_app : ∀ (n : Nat) (l m : List UInt8), l.length ≤ n → validD l = true → validD (l ++ m) = validD m
  | n, [], m, _, _ => rfl
  | 0, c :: t, m, h, _ => by simp at h
  | n + 1, c :: t, m, h, hv => by
    have hne : c :: t ≠ [] := by simp
    have hb : ¬ ((decodeL (c :: t)).1 = 65533 ∧ (decodeL (c :: t)).2 = 1) := fun h => by rw [validD_step _ hne, if_pos h] at hv; cases hv
    have hw := decodeL_width (c :: t)
    rw [validD_step (c :: t ++ m) (by simp), decode_app _ m hne hv, if_neg hb, List.drop_append_of_le_length (decodeL_le _ hne)]
    exact valid_app n _ m (by rw [List.length_drop]; simp at h ⊢; omega) (valid_drop _ hne hv)
theorem runeL_app (l m : List UInt8) (hne : l ≠ []) (hv : validD l = true) : runeL (l ++ m) = runeL l := by
  unfold runeL
  rw [if_neg (by simp [hne]), if_neg hne, decode_app l m hne hv]
theorem runeL_cons (c : UInt8) (m : List UInt8) (h : c.toNat < 128) : runeL (c :: m) = (c.toNat : Int) := by
  unfold runeL
  rw [if_neg (by simp), decodeL_ascii c m h]
/-- A byte that ends all that a quoted text may hold, and begins nothing behind a backslash. -/
def stopC (c : UInt8) : Prop := c = 32 ∨ c = 44 ∨ c = 93
theorem stop_ascii {c : UInt8} (h : stopC c) : c.toNat < 128 := by rcases h with rfl | rfl | rfl <;> decide
theorem hexN_none : ∀ (l : List UInt8) (acc : Nat) (c : UInt8), c ∈ l → hexD c = none → hexN acc l = none
  | [], _, _, h, _ => by simp at h
  | d :: t, acc, c, h, hc => by
    unfold hexN
    rcases List.mem_cons.1 h with rfl | h
    · rw [hc]
    · cases hexD d with
      | none => rfl
      | some v => exact hexN_none t _ c h hc
theorem numLq_app {c : UInt8} (hc : stopC c) (l m : List UInt8) (k : Nat) : numLq (l ++ c :: m) k = numLq l k := by
  have hcx : hexD c = none := by rcases hc with rfl | rfl | rfl <;> rfl
  have key : numL (l ++ c :: m) k = numL l k := by
    unfold numL
    rcases Nat.lt_or_ge l.length k with h | h
    · rw [if_pos h]
      have hx : hexN 0 ((l ++ c :: m).take k) = none := hexN_none _ 0 c (by
        rw [List.take_append]
        have : k - l.length = (k - l.length - 1) + 1 := by omega
        rw [this, List.take_succ_cons]
        simp) hcx
      rw [hx]
      split <;> rfl
    · rw [if_neg (show ¬ l.length < k by omega), if_neg (show ¬ (l ++ c :: m).length < k by rw [List.length_append]; omega), List.take_append_of_le_length h]
  unfold numLq
  rw [key]
theorem escL_app {c : UInt8} (hc : stopC c) (l m : List UInt8) (hv : validD l = true) : escL (l ++ c :: m) = escL l := by
  by_cases hne : l = []
  · subst hne
    unfold escL
    rw [List.nil_append, runeL_cons c m (stop_ascii hc)]
    rcases hc with rfl | rfl | rfl <;> rfl
  · have hl : 0 < l.length := List.length_pos_iff.2 hne
    unfold escL
    rw [runeL_app l (c :: m) hne hv, if_neg (show ¬ l.length = 0 by omega), if_neg (show ¬ (l ++ c :: m).length = 0 by simp), List.drop_append_of_le_length (by omega), numLq_app hc, numLq_app hc]
theorem toList_mk (l : List UInt8) : (⟨l.toArray⟩ : ByteArray).data.toList = l := by simp
theorem size_mk (l : List UInt8) : (⟨l.toArray⟩ : ByteArray).size = l.length := by rw [Lib.size_eq, toList_mk]
theorem valid_byte {l : List UInt8} (hne : l ≠ []) (hv : validD l = true) (hb : runeL l < 128) : ∃ c t, l = c :: t ∧ c.toNat < 128 ∧ runeL l = (c.toNat : Int) ∧ validD t = true := by
  obtain ⟨c, t, rfl⟩ : ∃ c t, l = c :: t := by cases l with | nil => exact absurd rfl hne | cons c t => exact ⟨c, t, rfl⟩
  have hlt : c.toNat < 128 := by
    rcases Nat.lt_or_ge c.toNat 128 with h | h
    · exact h
    · have := rune_high c t h
      unfold runeL at hb; rw [if_neg (by simp)] at hb; omega
  refine ⟨c, t, rfl, hlt, runeL_cons c t hlt, ?_⟩
  rw [validD_cons c t hlt] at hv; exact hv
theorem oneL_next {q : Int} {l : List UInt8} {r : Int} {k : Nat} (hv : validD l = true) (h : oneL q l = .sign r k) : l ≠ [] ∧ 1 ≤ k ∧ k ≤ l.length ∧ validD (l.drop k) = true ∧ Lib.validRune r = true := by
  have h0 : oneQ ⟨l.toArray⟩ q 0 = .sign r k := by rw [oneQ_L, toList_mk, List.drop_zero, h]; simp [shQ]
  obtain ⟨h1, h2, h3, h4, h5⟩ := oneQ_next (by omega) (fun _ => by rw [toList_mk, List.drop_zero]; exact hv) h0
  rw [size_mk] at h1 h3 h4
  refine ⟨fun e => by rw [e] at h1; simp at h1, by omega, h3, ?_, h5⟩
  rcases Nat.lt_or_ge k l.length with h6 | h6
  · have := h4 h6; rwa [toList_mk] at this
  · rw [List.drop_eq_nil_of_le h6]; rfl
theorem oneL_app {c : UInt8} (hc : stopC c) (q : Int) (l m : List UInt8) (hne : l ≠ []) (hv : validD l = true) : oneL q (l ++ c :: m) = oneL q l := by
  have hl : 0 < l.length := List.length_pos_iff.2 hne
  have hr := runeL_app l (c :: m) hne hv
  have key : (runeL l = 39 ∧ runeL ((l ++ c :: m).drop 1) = 39 ∧ 1 < (l ++ c :: m).length) ↔ (runeL l = 39 ∧ runeL (l.drop 1) = 39 ∧ 1 < l.length) := by
    by_cases h39 : runeL l = 39
    · obtain ⟨d, t, rfl, _, _, hvt⟩ := valid_byte hne hv (by omega)
      by_cases ht : t = []
      · subst ht
        constructor
        · rintro ⟨_, h2, _⟩
          rw [show ([d] ++ c :: m).drop 1 = c :: m from rfl, runeL_cons c m (stop_ascii hc)] at h2
          rcases hc with rfl | rfl | rfl <;> exact absurd h2 (by decide)
        · rintro ⟨_, _, h3⟩; simp at h3
      · rw [show (d :: t ++ c :: m).drop 1 = t ++ c :: m from rfl, runeL_app t (c :: m) ht hvt, show (d :: t).drop 1 = t from rfl]
        have hl2 : 0 < t.length := List.length_pos_iff.2 ht
        constructor
        · rintro ⟨h1, h2, _⟩; exact ⟨h1, h2, by simp; omega⟩
        · rintro ⟨h1, h2, _⟩; exact ⟨h1, h2, by simp; omega⟩
    · exact ⟨fun h => absurd h.1 h39, fun h => absurd h.1 h39⟩
  unfold oneL
  rw [hr, decode_app l (c :: m) hne hv, if_neg (show ¬ l.length = 0 by omega), if_neg (show ¬ (l ++ c :: m).length = 0 by simp)]
  by_cases hq : runeL l = q
  · rw [if_pos hq, if_pos hq]
    by_cases h2 : runeL l = 39 ∧ runeL (l.drop 1) = 39 ∧ 1 < l.length
    · rw [if_pos h2, if_pos (key.2 h2)]
    · rw [if_neg h2, if_neg (fun h => h2 (key.1 h))]
  · rw [if_neg hq, if_neg hq]
    by_cases h92 : runeL l = 92 ∧ q = 34
    · rw [if_pos h92, if_pos h92]
      obtain ⟨d, t, rfl, _, _, hvt⟩ := valid_byte hne hv (by omega)
      rw [show (d :: t ++ c :: m).drop 1 = t ++ c :: m from rfl, show (d :: t).drop 1 = t from rfl, escL_app hc t m hvt]
    · rw [if_neg h92, if_neg h92]
theorem readL_app {c : UInt8} (hc : stopC c) (q : Int) (m : List UInt8) : ∀ (f : Nat) (l acc : List UInt8) (n : Nat), validD l = true → (readL q f l acc n).2.2 ≠ 42 → readL q f (l ++ c :: m) acc n = readL q f l acc n
  | 0, l, acc, n, _, h => by simp [readL] at h
  | f + 1, l, acc, n, hv, h => by
    by_cases hne : l = []
    · subst hne
      unfold readL at h
      rw [show oneL q [] = .bad 42 from rfl] at h
      exact absurd rfl h
    · unfold readL at h ⊢
      rw [oneL_app hc q l m hne hv]
      cases ho : oneL q l with
      | sign r k =>
        rw [ho] at h
        obtain ⟨_, h2, h3, h4, _⟩ := oneL_next hv ho
        show readL q f ((l ++ c :: m).drop k) _ _ = readL q f (l.drop k) _ _
        rw [List.drop_append_of_le_length h3]
        exact readL_app hc q m f _ _ _ h4 h
      | fin k => rfl
      | bad e => rfl
theorem readL_to (q : Int) (hq128 : q < 128) : ∀ (f : Nat) (l acc : List UInt8) (n : Nat), validD l = true → (readL q f l acc n).2.2 = 0 → n < (readL q f l acc n).2.1 ∧ (readL q f l acc n).2.1 ≤ n + l.length ∧ validD (l.drop ((readL q f l acc n).2.1 - n)) = true
  | 0, l, acc, n, _, h => by simp [readL] at h
  | f + 1, l, acc, n, hv, h => by
    unfold readL at h ⊢
    cases ho : oneL q l with
    | sign r k =>
      rw [ho] at h
      obtain ⟨_, h2, h3, h4, _⟩ := oneL_next hv ho
      have := readL_to q hq128 f (l.drop k) _ _ h4 h
      rw [List.length_drop, List.drop_drop] at this
      dsimp only
      refine ⟨by omega, by omega, ?_⟩
      rw [show (readL q f (List.drop k l) (acc ++ encodeRune r) (n + k)).2.1 - n = k + ((readL q f (List.drop k l) (acc ++ encodeRune r) (n + k)).2.1 - (n + k)) by omega]
      exact this.2.2
    | fin k =>
      rw [ho] at h
      have hlen : l ≠ [] ∧ k = 1 := by
        rcases oneL_cases q l with ⟨hne, ⟨r, k, h, hk⟩ | h | h⟩ | h <;> rw [ho] at h <;> first | (injection h with h; exact ⟨hne, h⟩) | cases h
      have hl : 0 < l.length := List.length_pos_iff.2 hlen.1
      dsimp only
      refine ⟨by omega, by omega, ?_⟩
      rw [show n + k - n = 1 by omega]
      have hq : runeL l = q := by
        unfold oneL at ho
        split at ho
        · cases ho
        · split at ho
          · assumption
          · split at ho
            · rcases escL_cases (l.drop 1) with ⟨r, k, h, hk⟩ | h <;> rw [h] at ho <;> cases ho
            · split at ho <;> cases ho
      obtain ⟨c, t, rfl, _, _, hvt⟩ := valid_byte hlen.1 hv (by omega)
      exact hvt
    | bad e =>
      rw [ho] at h
      simp at h
      rcases oneL_cases q l with ⟨hne, ⟨r, k, h2, hk⟩ | h2 | h2⟩ | h2 <;> rw [ho] at h2 <;> first | (injection h2 with h2; omega) | cases h2
end Go.Proofs.YtiinnnbpbnojgaaGreatDoor

/- What is proved: package quote's Read at a quote of a right text: further on, in a longer text, where it ends; no program stands in it. -/
namespace Go.Proofs.YtiinnnbpbnojgaaGreatDoor
open Go Go.RowKit Go.Lib
set_option linter.unusedSimpArgs false
set_option linter.unusedVariables false

/-- A quote stands at a place. -/
def quoteB (l : List UInt8) (p : Nat) (q : Int) : Prop := p < l.length ∧ ((l.getD p 0 = 34 ∧ q = 34) ∨ (l.getD p 0 = 39 ∧ q = 39))
theorem quoteB_of {l : List UInt8} {p : Nat} (hp : p < l.length) (h : l.getD p 0 = 34 ∨ l.getD p 0 = 39) : ∃ q, quoteB l p q ∧ q < 128 := by
  rcases h with h | h
  · exact ⟨34, ⟨hp, .inl ⟨h, rfl⟩⟩, by decide⟩
  · exact ⟨39, ⟨hp, .inr ⟨h, rfl⟩⟩, by decide⟩
theorem getD_mk (l : List UInt8) (p : Nat) (h : p < (⟨l.toArray⟩ : ByteArray).size) : (⟨l.toArray⟩ : ByteArray)[p]'h = l.getD p 0 := by
  have := getD_byte ⟨l.toArray⟩ p h
  rw [toList_mk] at this
  exact this.symm
theorem quoteAt_L {l : List UInt8} {p : Nat} {q : Int} (h : quoteB l p q) : quoteAt ⟨l.toArray⟩ p = some q := by
  have hlt : p < (⟨l.toArray⟩ : ByteArray).size := by rw [size_mk]; exact h.1
  unfold quoteAt
  rw [if_neg (by omega), dif_pos (by simpa using hlt)]
  have hg := getD_mk l p hlt
  have hg' : (⟨l.toArray⟩ : ByteArray)[((p : Nat) : Int).toNat]'(by simpa using hlt) = l.getD p 0 := by simpa using hg
  rw [hg']
  rcases h.2 with ⟨h1, rfl⟩ | ⟨h1, rfl⟩ <;> rw [h1] <;> rfl
theorem readQ_L {l : List UInt8} {p : Nat} {q : Int} (h : quoteB l p q) (hv : validD l = true) : readQ ⟨l.toArray⟩ p = readL q (l.length + 1 - (p + 1)) (l.drop (p + 1)) [] (p + 1) := by
  unfold readQ
  rw [toList_mk, hv, if_pos rfl, quoteAt_L h]
  show foldQ (piecesQ ⟨l.toArray⟩ q (((p : Nat) : Int).toNat + 1)) [] = _
  rw [show ((p : Nat) : Int).toNat = p by omega]
  unfold piecesQ
  rw [fold_L, toList_mk, size_mk]
theorem valid_quote {l : List UInt8} {p : Nat} {q : Int} (h : quoteB l p q) (hv : validD l = true) : validD (l.drop (p + 1)) = true := by
  refine valid_after _ l p (Nat.le_refl _) hv h.1 ?_
  have : l[p]'h.1 = l.getD p 0 := by simp [List.getD, List.getElem?_eq_getElem h.1]
  rw [this]
  rcases h.2 with ⟨h1, _⟩ | ⟨h1, _⟩ <;> rw [h1] <;> decide
theorem getD_right (b l : List UInt8) (p : Nat) : (b ++ l).getD (b.length + p) 0 = l.getD p 0 := by
  rw [List.getD, List.getElem?_append_right (by omega), show b.length + p - b.length = p by omega]; rfl
theorem getD_left (l m : List UInt8) (p : Nat) (h : p < l.length) : (l ++ m).getD p 0 = l.getD p 0 := by
  rw [List.getD, List.getElem?_append_left h]; rfl
theorem readQ_shift {b l : List UInt8} {p : Nat} {q : Int} (h : quoteB l p q) (hb : validD b = true) (hv : validD l = true) :
    readQ ⟨(b ++ l).toArray⟩ ((b.length + p : Nat) : Int) = ((readQ ⟨l.toArray⟩ p).1, if (readQ ⟨l.toArray⟩ p).2.2 = 0 then b.length + (readQ ⟨l.toArray⟩ p).2.1 else (readQ ⟨l.toArray⟩ p).2.1, (readQ ⟨l.toArray⟩ p).2.2) := by
  have h2 : quoteB (b ++ l) (b.length + p) q := ⟨by rw [List.length_append]; have := h.1; omega, by rw [getD_right]; exact h.2⟩
  rw [readQ_L h2 (by rw [valid_app _ b l (Nat.le_refl _) hb]; exact hv), readQ_L h hv]
  rw [show b.length + p + 1 = b.length + (p + 1) by omega, readL_shift, ← List.drop_drop, List.drop_left]
  rw [show (b ++ l).length + 1 - (b.length + (p + 1)) = l.length + 1 - (p + 1) by rw [List.length_append]; omega]
theorem readQ_app {l m : List UInt8} {c : UInt8} (hc : stopC c) {p : Nat} {q : Int} (h : quoteB l p q) (hv : validD l = true) (hm : validD (c :: m) = true) (he : (readQ ⟨l.toArray⟩ p).2.2 ≠ 42) :
    readQ ⟨(l ++ c :: m).toArray⟩ p = readQ ⟨l.toArray⟩ p := by
  have h2 : quoteB (l ++ c :: m) p q := ⟨by rw [List.length_append]; have := h.1; omega, by rw [getD_left _ _ _ h.1]; exact h.2⟩
  rw [readQ_L h hv] at he ⊢
  rw [readQ_L h2 (by rw [valid_app _ l _ (Nat.le_refl _) hv]; exact hm), List.drop_append_of_le_length (by have := h.1; omega)]
  have hl := h.1
  have hf : readL q ((l ++ c :: m).length + 1 - (p + 1)) (l.drop (p + 1)) [] (p + 1) = readL q (l.length + 1 - (p + 1)) (l.drop (p + 1)) [] (p + 1) :=
    readL_fuel q _ _ _ _ _ (by simp only [List.length_append, List.length_drop, List.length_cons]; omega) (by rw [List.length_drop]; omega)
  rw [← hf] at he ⊢
  exact readL_app hc q m _ _ _ _ (valid_quote h hv) he
theorem readQ_to {l : List UInt8} {p : Nat} {q : Int} (h : quoteB l p q) (hq : q < 128) (hv : validD l = true) (he : (readQ ⟨l.toArray⟩ p).2.2 = 0) : p + 1 < (readQ ⟨l.toArray⟩ p).2.1 ∧ (readQ ⟨l.toArray⟩ p).2.1 ≤ l.length := by
  rw [readQ_L h hv] at he ⊢
  have := readL_to q hq _ (l.drop (p + 1)) [] (p + 1) (valid_quote h hv) he
  rw [List.length_drop] at this
  have h1 := h.1
  omega
theorem readL_err (q : Int) : ∀ (f : Nat) (l acc : List UInt8) (n : Nat), (readL q f l acc n).2.2 = 0 ∨ (readL q f l acc n).2.2 = 41 ∨ (readL q f l acc n).2.2 = 42
  | 0, l, acc, n => .inr (.inr rfl)
  | f + 1, l, acc, n => by
    unfold readL
    rcases oneL_cases q l with ⟨hne, ⟨r, k, h, hk⟩ | h | h⟩ | h
    · rw [h]; exact readL_err q f _ _ _
    · rw [h]; exact .inl rfl
    · rw [h]; exact .inr (.inl rfl)
    · rw [h]; exact .inr (.inr rfl)
theorem readQ_err {l : List UInt8} {p : Nat} {q : Int} (h : quoteB l p q) (hv : validD l = true) : (readQ ⟨l.toArray⟩ p).2.2 = 0 ∨ (readQ ⟨l.toArray⟩ p).2.2 = 41 ∨ (readQ ⟨l.toArray⟩ p).2.2 = 42 := by
  rw [readQ_L h hv]; exact readL_err q _ _ _ _
end Go.Proofs.YtiinnnbpbnojgaaGreatDoor
