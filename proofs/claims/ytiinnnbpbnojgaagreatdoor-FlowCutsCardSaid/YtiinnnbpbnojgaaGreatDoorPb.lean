import Derived.Test.YtiinnnbpbnojgaaGreatDoorRe
/- What is proved: the reference and the program say the same of which texts may stand plain; lists of bytes alone. -/
namespace Go.Proofs.YtiinnnbpbnojgaaGreatDoor
open Go Go.RowKit Go.Lib
set_option linter.unusedSimpArgs false
set_option linter.unusedVariables false

/-! ### okR, by recursion -/
def badC (flow : Bool) (prev c : UInt8) (r : List UInt8) : Bool :=
  (c == 58 && (r.isEmpty || r.getD 0 0 == 32)) || (c == 35 && prev == 32) || (flow && amongB flowL c)
def okB (flow : Bool) : UInt8 → List UInt8 → Bool
  | _, [] => true
  | prev, c :: r => !badC flow prev c r && okB flow c r
def badM (flow : Bool) (prev : UInt8) (m : List UInt8) (i : Nat) : Bool := badC flow (if i = 0 then prev else m.getD (i - 1) 0) (m.getD i 0) (m.drop (i + 1))
theorem okB_iff (flow : Bool) : ∀ (prev : UInt8) (m : List UInt8), okB flow prev m = true ↔ ∀ i, i < m.length → badM flow prev m i = false
  | prev, [] => by simp [okB]
  | prev, c :: r => by
    have ih := okB_iff flow c r
    unfold okB
    rw [Bool.and_eq_true, ih]
    constructor
    · rintro ⟨h1, h2⟩ i hi
      cases i with
      | zero => simpa [badM] using h1
      | succ i =>
        have := h2 i (by simpa using hi)
        cases i with
        | zero => simpa [badM] using this
        | succ j => simpa [badM] using this
    · intro h
      refine ⟨?_, fun i hi => ?_⟩
      · have := h 0 (by simp)
        simpa [badM] using this
      · have := h (i + 1) (by simpa using hi)
        cases i with
        | zero => simpa [badM] using this
        | succ j => simpa [badM] using this
theorem badR_M {l : List UInt8} {flow : Bool} {i : Nat} (hi : i < l.length) : badR l flow i = badM flow 0 l i := by
  unfold badR badM badC bad1 bad2
  have h1 : (i + 1 == l.length || l.getD (i + 1) 0 == 32) = ((l.drop (i + 1)).isEmpty || (l.drop (i + 1)).getD 0 0 == 32) := by
    congr 1
    · rw [Bool.eq_iff_iff, List.isEmpty_iff, List.drop_eq_nil_iff]
      simp; omega
    · simp [List.getD, List.getElem?_drop]
  have h2 : (decide (0 < i) && l.getD (i - 1) 0 == 32) = ((if i = 0 then (0 : UInt8) else l.getD (i - 1) 0) == 32) := by
    by_cases h0 : i = 0
    · subst h0; simp
    · rw [if_neg h0, decide_eq_true (by omega)]; rfl
  rw [h1, h2]
theorem okR_B (l : List UInt8) (flow : Bool) : okR l flow l.length = okB flow 0 l := by
  rw [Bool.eq_iff_iff, okB_iff]
  unfold okR
  rw [List.all_eq_true]
  constructor
  · intro h i hi
    have := h i (List.mem_range.2 hi)
    rw [← badR_M hi]
    simpa using this
  · intro h i hi
    have := h i (List.mem_range.1 hi)
    rw [← badR_M (List.mem_range.1 hi)] at this
    rw [this]; rfl

/-! ### bytes that are no ASCII -/
theorem badC_high {flow : Bool} {prev c : UInt8} {r : List UInt8} (h : 128 ≤ c.toNat) : badC flow prev c r = false := by
  have e : ∀ d : UInt8, d.toNat < 128 → (c == d) = false := fun d hd => by
    rw [← Bool.not_eq_true, beq_iff_eq]
    rintro rfl
    omega
  have ne : ∀ d : UInt8, d.toNat < 128 → ¬ c = d := fun d hd => by
    rintro rfl
    omega
  unfold badC amongB flowL
  simp [e 58 (by decide), e 35 (by decide), List.contains_cons]
  exact fun _ => ⟨ne 44 (by decide), ne 91 (by decide), ne 93 (by decide), ne 123 (by decide), ne 125 (by decide)⟩
theorem okB_high (flow : Bool) : ∀ (hs m : List UInt8) (prev : UInt8), (∀ b ∈ hs, 128 ≤ b.toNat) → okB flow prev (hs ++ m) = okB flow (hs.getLastD prev) m
  | [], m, prev, _ => rfl
  | h :: hs, m, prev, hh => by
    show (!badC flow prev h (hs ++ m) && okB flow h (hs ++ m)) = _
    rw [badC_high (hh h (by simp)), okB_high flow hs m h (fun b hb => hh b (by simp [hb])), List.getLastD_cons]
    rfl
theorem enc_high (v : Int) (h : 128 ≤ v) : ∀ b ∈ encodeRune v, 128 ≤ b.toNat := by
  intro b hb
  unfold encodeRune at hb
  obtain ⟨z, hz, rfl⟩ := List.mem_map.1 hb
  have hb2 := encodeRuneZ_byte v z hz
  have h128 : 128 ≤ z := by
    by_cases c1 : v ≤ 2047
    · rw [encodeRuneZ_two h c1] at hz; simp at hz; omega
    by_cases c2 : v ≤ 65535
    · by_cases c3 : v < 55296 ∨ 57343 < v
      · rw [encodeRuneZ_three (by omega)] at hz; simp at hz; omega
      · rw [encodeRuneZ_bad (by omega)] at hz; simp at hz; omega
    · by_cases c3 : v ≤ 1114111
      · rw [encodeRuneZ_four (by omega) c3] at hz; simp at hz; omega
      · rw [encodeRuneZ_bad (by omega)] at hz; simp at hz; omega
  have := b8 z _ (by omega) (by omega) rfl
  omega
theorem rune_high (b : UInt8) (t : List UInt8) (h : 128 ≤ b.toNat) : 128 ≤ (decodeL (b :: t)).1 := by
  have := decode_high ⟨(b :: t).toArray⟩ 0 (by rw [Lib.size_eq]; simp) (show 128 ≤ b.toNat from h)
  exact this.1

/-! ### runes and bytes say the same -/
def plainRune (r : Nat) : Bool := plainN (r : Int)
theorem next_32 (c : UInt8) (t : List UInt8) : ((decodeL (c :: t)).1 == 32) = (c == 32) := by
  by_cases h : c.toNat < 128
  · rw [decodeL_ascii c t h, Bool.eq_iff_iff]
    simp [← UInt8.toNat_inj]
  · have h1 := rune_high c t (by omega)
    rw [Bool.eq_iff_iff]
    simp [← UInt8.toNat_inj]
    omega
theorem among_nat (b : UInt8) : (b.toNat == 44 || b.toNat == 91 || b.toNat == 93 || b.toNat == 123 || b.toNat == 125) = amongB flowL b := by
  rw [Bool.eq_iff_iff]
  unfold amongB flowL
  simp [← UInt8.toNat_inj, List.contains_cons, or_assoc]
theorem long_eq (flow : Bool) : ∀ (n : Nat) (l : List UInt8) (last : Nat) (prev : UInt8), l.length ≤ n → validD l = true → (last == 32) = (prev == 32) →
    okAll flow (pairsGo last (runes l)) = ((runes l).all plainRune && okB flow prev l)
  | 0, l, last, prev, hn, _, _ => by
    have : l = [] := List.eq_nil_of_length_eq_zero (by omega)
    subst this; rfl
  | n + 1, [], last, prev, hn, _, _ => rfl
  | n + 1, b :: t, last, prev, hn, hv, hp => by
    by_cases hb : b.toNat < 128
    · have hd := decodeL_ascii b t hb
      have hrs : runes (b :: t) = b.toNat :: runes t := by rw [runes_step _ (by simp), hd]; rfl
      rw [validD_cons b t hb] at hv
      have ih := long_eq flow n t b.toNat b (by simpa using hn) hv (by rw [Bool.eq_iff_iff]; simp [← UInt8.toNat_inj])
      rw [hrs]
      have hplain : plainRune b.toNat = (!decide (b.toNat < 32) && !(b.toNat == 127)) := by
        unfold plainRune plainN; rw [Bool.eq_iff_iff]; simp; omega
      have hb58 : (b.toNat == 58) = (b == 58) := by rw [Bool.eq_iff_iff]; simp [← UInt8.toNat_inj]
      have hb35 : (b.toNat == 35) = (b == 35) := by rw [Bool.eq_iff_iff]; simp [← UInt8.toNat_inj]
      cases t with
      | nil =>
        rw [show runes [] = [] from rfl]
        show okAll flow [(b.toNat, last, 0)] = _
        unfold okAll okB okB badAt badC
        simp only [List.all_cons, List.all_nil, Bool.and_true, hplain, among_nat, hb58, hb35, hp]
        cases (b == 58) <;> cases (b == 35) <;> cases (prev == 32) <;> cases flow <;> cases amongB flowL b <;> cases decide (b.toNat < 32) <;> cases (b.toNat == 127) <;> rfl
      | cons c t' =>
        have hr2 : runes (c :: t') = (decodeL (c :: t')).1 :: runes ((c :: t').drop (decodeL (c :: t')).2) := runes_step _ (by simp)
        obtain ⟨q, hq⟩ : ∃ q, (decodeL (c :: t')).1 = q := ⟨_, rfl⟩
        have h32 : (q == 32) = (c == 32) := by rw [← hq]; exact next_32 c t'
        rw [hq] at hr2
        have hX : q = 0 → okAll flow (pairsGo b.toNat (runes (c :: t'))) = false := fun h0 => by
          rw [ih, hr2, h0]
          rfl
        have hL : okAll flow (pairsGo last (b.toNat :: runes (c :: t'))) = (!badAt flow (b.toNat, last, q) && okAll flow (pairsGo b.toNat (runes (c :: t')))) := by
          rw [hr2]; rfl
        rw [hL, List.all_cons]
        show _ = (_ && (!badC flow prev b (c :: t') && okB flow b (c :: t')))
        have hA : badAt flow (b.toNat, last, q) = (decide (b.toNat < 32) || b.toNat == 127 || (flow && amongB flowL b) || (b == 58 && (q == 0 || c == 32)) || (b == 35 && prev == 32)) := by
          unfold badAt; simp only [among_nat, hb58, hb35, hp, h32]
        have hC : badC flow prev b (c :: t') = ((b == 58 && c == 32) || (b == 35 && prev == 32) || (flow && amongB flowL b)) := by
          unfold badC; simp
        rw [hA, hC, hplain]
        by_cases h0 : q = 0
        · rw [hX h0]
          have := hX h0
          rw [ih] at this
          cases h1 : (runes (c :: t')).all plainRune
          · simp
          · rw [h1] at this
            have h2 : okB flow b (c :: t') = false := by simpa using this
            rw [h2]; simp
        · have h00 : (q == 0) = false := by simpa using h0
          rw [ih, h00]
          cases (b == 58) <;> cases (b == 35) <;> cases (prev == 32) <;> cases flow <;> cases amongB flowL b <;> cases decide (b.toNat < 32) <;> cases (b.toNat == 127) <;> cases (c == 32) <;> cases (runes (c :: t')).all plainRune <;> cases okB _ b (c :: t') <;> rfl
    · have hne : b :: t ≠ [] := by simp
      have hvs := validD_step (b :: t) hne
      have hbad : ¬ ((decodeL (b :: t)).1 = 65533 ∧ (decodeL (b :: t)).2 = 1) := fun h => by
        rw [if_pos h, hv] at hvs; cases hvs
      rw [if_neg hbad, hv] at hvs
      have hr := rune_high b t (by omega)
      have henc := encode_decode (b :: t) hne hbad
      have hle := decodeL_le (b :: t) hne
      have hw := decodeL_width (b :: t)
      have hall : ∀ x ∈ (b :: t).take (decodeL (b :: t)).2, 128 ≤ x.toNat := by rw [← henc]; exact enc_high _ (by omega)
      have hrs := runes_step (b :: t) hne
      obtain ⟨q, hq⟩ : ∃ q, (decodeL (b :: t)).1 = q := ⟨_, rfl⟩
      obtain ⟨k, hk⟩ : ∃ k, (decodeL (b :: t)).2 = k := ⟨_, rfl⟩
      rw [hq] at hr
      rw [hk] at hle hw hall hvs
      rw [hq, hk] at hrs
      have hsplit : b :: t = (b :: t).take k ++ (b :: t).drop k := (List.take_append_drop _ _).symm
      have hoB : okB flow prev (b :: t) = okB flow (((b :: t).take k).getLastD prev) ((b :: t).drop k) := by
        conv => lhs; rw [hsplit]
        exact okB_high flow _ _ _ hall
      have hlast : ((q == 32) : Bool) = (((b :: t).take k).getLastD prev == 32) := by
        have h1 : (q == 32) = false := by simp; omega
        rw [h1]
        have hne2 : (b :: t).take k ≠ [] := by
          intro h; have := congrArg List.length h; rw [List.length_take] at this; simp at this; omega
        have hmem : ((b :: t).take k).getLastD prev ∈ (b :: t).take k := by
          rw [List.getLastD_eq_getLast?, List.getLast?_eq_some_getLast hne2]
          exact List.getLast_mem hne2
        have := hall _ hmem
        symm
        rw [← Bool.not_eq_true, beq_iff_eq]
        intro h
        rw [h] at this
        exact absurd this (by decide)
      have ih := long_eq flow n ((b :: t).drop k) q _ (by rw [List.length_drop]; omega) hvs.symm hlast
      rw [hrs, hoB, List.all_cons]
      have hpq : plainRune q = true := by unfold plainRune plainN; simp; omega
      have hbq : ∀ z, badAt flow (q, last, z) = false := fun z => by
        unfold badAt
        have e : ∀ d, d < 128 → (q == d) = false := fun d hd => by simp; omega
        simp [e 127 (by omega), e 44 (by omega), e 91 (by omega), e 93 (by omega), e 123 (by omega), e 125 (by omega), e 58 (by omega), e 35 (by omega)]
        omega
      rw [hpq, Bool.true_and, ← ih]
      cases hrr : runes ((b :: t).drop k) with
      | nil => show okAll flow [(q, last, 0)] = okAll flow []; simp [okAll, hbq]
      | cons z rest =>
        show okAll flow ((q, last, z) :: pairsGo q (z :: rest)) = _
        unfold okAll
        rw [List.all_cons, hbq]; rfl
end Go.Proofs.YtiinnnbpbnojgaaGreatDoor

/- What is proved: the reference's May is the program's. -/
namespace Go.Proofs.YtiinnnbpbnojgaaGreatDoor
open Go Go.RowKit Go.Lib
set_option linter.unusedSimpArgs false
set_option linter.unusedVariables false

theorem dropWhile_le (c : UInt8) : ∀ l : List UInt8, (l.dropWhile (· == c)).length ≤ l.length
  | [] => by simp
  | b :: t => by
    rw [List.dropWhile_cons]
    split
    · have := dropWhile_le c t; simp; omega
    · simp
theorem getD_at {l : List UInt8} {i : Nat} (h : i < l.length) : l[i]? = some (l.getD i 0) := by
  rw [List.getD, List.getElem?_eq_getElem h]; rfl
theorem trim_eq (l : List UInt8) (hne : l ≠ []) : (trimB l 32 == l) = (!(l.getD 0 0 == 32) && !(l.getD (l.length - 1) 0 == 32)) := by
  have hl : 0 < l.length := List.length_pos_iff.2 hne
  by_cases h2 : l.getD (l.length - 1) 0 = 32
  · have hlt : (trimRightB l 32).length < l.length := by
      unfold trimRightB
      rw [List.length_reverse]
      have hrev : l.reverse = 32 :: l.reverse.tail := by
        cases hr : l.reverse with
        | nil => simp at hr; exact absurd hr hne
        | cons x xs =>
          have hx : l.reverse[0]? = some x := by rw [hr]; rfl
          rw [List.getElem?_reverse hl, getD_at (by omega)] at hx
          have : l.getD (l.length - 1) 0 = x := by simpa using hx
          rw [← this, h2]; rfl
      rw [hrev, List.dropWhile_cons]
      simp only [BEq.rfl, if_true]
      have := dropWhile_le 32 l.reverse.tail
      rw [List.length_tail, List.length_reverse] at this
      omega
    have hne2 : trimB l 32 ≠ l := fun h => by
      have h3 := congrArg List.length h
      unfold trimB trimLeftB at h3
      have := dropWhile_le 32 (trimRightB l 32)
      omega
    rw [h2]
    simpa using hne2
  · have hr : trimRightB l 32 = l := by
      rw [trimRightB_take l 32 l.length (Nat.le_refl _) (fun j b h1 h3 => by rw [List.getElem?_eq_none h1] at h3; cases h3) (fun b _ h3 => by
        rw [getD_at (by omega)] at h3
        have : l.getD (l.length - 1) 0 = b := by simpa using h3
        rw [← this]; exact h2), List.take_length]
    have h2b : (l.getD (l.length - 1) 0 == 32) = false := by simpa using h2
    rw [h2b]
    by_cases h1 : l.getD 0 0 = 32
    · have hne2 : trimB l 32 ≠ l := fun h => by
        have h3 := congrArg List.length h
        unfold trimB at h3
        rw [hr] at h3
        unfold trimLeftB at h3
        cases hll : l with
        | nil => exact hne hll
        | cons b t =>
          rw [hll] at h1 h3
          have hb : b = 32 := h1
          subst hb
          rw [List.dropWhile_cons] at h3
          simp only [BEq.rfl, if_true] at h3
          have := dropWhile_le 32 t
          simp at h3
          omega
      rw [h1]
      simpa using hne2
    · have : trimB l 32 = l := by
        unfold trimB
        rw [hr, trimLeftB_drop l 32 0 (by omega) (fun j b h _ => by omega) (fun b h3 => by
          rw [getD_at hl] at h3
          have : l.getD 0 0 = b := by simpa using h3
          rw [← this]; exact h1)]
        rfl
      rw [this]
      have h1b : (l.getD 0 0 == 32) = false := by simpa using h1
      rw [h1b]
      simp
theorem index_among (l : List UInt8) (c : UInt8) : decide (0 ≤ Lib.indexByte l c) = amongB l c := by
  unfold amongB
  induction l with
  | nil => rfl
  | cons b t ih =>
    unfold Lib.indexByte
    have hge := Lib.indexByte_ge t c
    rw [List.contains_cons, ← ih]
    by_cases h : b = c
    · subst h; simp
    · have h1 : (b == c) = false := by simpa using h
      have h2 : (c == b) = false := by simpa using fun e => h e.symm
      rw [h1, h2]
      simp only [Bool.false_eq_true, if_false, Bool.false_or]
      by_cases h3 : Lib.indexByte t c = -1
      · simp [h3]
      · have h4 : (Lib.indexByte t c == -1) = false := by simpa using h3
        rw [h4]
        simp only [Bool.false_eq_true, if_false]
        rw [Bool.eq_iff_iff]
        simp
        omega
theorem mem_among (c : UInt8) : memB [45, 63, 58] (c.toNat : Int) = amongB [45, 63, 58] c := by
  rw [Bool.eq_iff_iff]
  unfold memB amongB
  simp [← UInt8.toNat_inj, List.contains_cons]
  omega
theorem plainR_eq (l : List UInt8) : plainR l = (validD l && (runes l).all plainRune) := by
  unfold plainR signsP runesZ
  cases validD l with
  | true => simp [List.all_map, Function.comp_def]; rfl
  | false => simp
theorem headD_eq (l : List UInt8) : l.headD 0 = l.getD 0 0 := by cases l <;> rfl
theorem dash_eq (l : List UInt8) (hne : l ≠ []) : (!dashR l) = (!(memB [45, 63, 58] ((l.headD 0).toNat : Int)) || (!l.tail.isEmpty && !(l.tail.headD 0 == 32))) := by
  unfold dashR
  rw [mem_among, headD_eq]
  cases l with
  | nil => exact absurd rfl hne
  | cons b t =>
    cases t with
    | nil => simp
    | cons c t' => simp

theorem mayR_eq (l : List UInt8) (flow : Bool) : mayR l flow = mayP l flow := by
  cases hl : l with
  | nil => rfl
  | cons b t =>
    rw [← hl]
    have hne : l ≠ [] := by rw [hl]; simp
    have he : l.isEmpty = false := by rw [hl]; rfl
    unfold mayR mayP headR begunOK longOK
    rw [trim_eq l hne, index_among, okR_B, plainR_eq, dash_eq l hne, he, headD_eq]
    cases hv : validD l with
    | false => simp
    | true =>
      rw [long_eq flow l.length l 0 0 (Nat.le_refl _) hv rfl]
      cases (runes l).all plainRune <;> cases (l.getD 0 0 == 32) <;> cases (l.getD (l.length - 1) 0 == 32) <;> cases amongB barredL (l.getD 0 0) <;> cases okB flow 0 l <;> simp
end Go.Proofs.YtiinnnbpbnojgaaGreatDoor
