/- What is proved: numbers and their numerals; the reference resolves as the program does. -/
import Derived.Test.YtccjfoldjbmnfaaDoorPc
namespace Go.Proofs.YtccjfoldjbmnfaaDoor
open Go Go.RowKit Go.Lib
set_option linter.unusedSimpArgs false
set_option linter.unusedVariables false

theorem dec_small {u : Nat} (h : u < 10) : decDigits u = [UInt8.ofNat (48 + u)] := by rw [decDigits, dif_pos h]
theorem dec_big {u : Nat} (h : ¬ u < 10) : decDigits u = decDigits (u / 10) ++ [UInt8.ofNat (48 + u % 10)] := by rw [decDigits, dif_neg h]
theorem dig_nat {k : Nat} (h : k < 10) : (UInt8.ofNat (48 + k)).toNat = 48 + k := by rw [UInt8.toNat_ofNat']; omega
theorem dig_is {k : Nat} (h : k < 10) : isDigB (UInt8.ofNat (48 + k)) = true := by unfold isDigB; rw [dig_nat h]; simp; omega
theorem valD_dec (u : Nat) : valD (decDigits u) = u := by
  induction u using Nat.strongRecOn with
  | _ u ih =>
    by_cases h : u < 10
    · rw [dec_small h]
      show 10 * 0 + (((UInt8.ofNat (48 + u)).toNat : Int) - 48) = u
      rw [dig_nat h]; omega
    · rw [dec_big h, valD_snoc, ih (u / 10) (by omega), dig_nat (by omega)]; omega
theorem dec_all (u : Nat) : (decDigits u).all isDigB = true := by
  induction u using Nat.strongRecOn with
  | _ u ih =>
    by_cases h : u < 10
    · rw [dec_small h, List.all_cons, dig_is h]; rfl
    · rw [dec_big h, List.all_append, ih (u / 10) (by omega), List.all_cons, dig_is (show u % 10 < 10 by omega)]; rfl
theorem dec_ne (u : Nat) : decDigits u ≠ [] := by
  by_cases h : u < 10
  · rw [dec_small h]; simp
  · rw [dec_big h]; simp
theorem getD_app (l m : List UInt8) (h : l ≠ []) : (l ++ m).getD 0 0 = l.getD 0 0 := by
  cases l with
  | nil => exact absurd rfl h
  | cons b t => rfl
theorem dec_head (u : Nat) : (decDigits u).getD 0 0 = 48 → u = 0 := by
  induction u using Nat.strongRecOn with
  | _ u ih =>
    by_cases h : u < 10
    · rw [dec_small h]
      intro h2
      have h3 : UInt8.ofNat (48 + u) = 48 := h2
      have := dig_nat h
      rw [h3] at this
      have h4 : (48 : UInt8).toNat = 48 := rfl
      omega
    · rw [dec_big h, getD_app _ _ (dec_ne _)]
      intro h2
      have := ih (u / 10) (by omega) h2
      omega
theorem dec_len (u : Nat) : 1 ≤ u → 10 ^ ((decDigits u).length - 1) ≤ u := by
  induction u using Nat.strongRecOn with
  | _ u ih =>
    intro h1
    by_cases h : u < 10
    · rw [dec_small h]; simpa using h1
    · rw [dec_big h, List.length_append]
      have := ih (u / 10) (by omega) (by omega)
      have hl : 1 ≤ (decDigits (u / 10)).length := List.length_pos_iff.2 (dec_ne _)
      have e : (decDigits (u / 10)).length + [UInt8.ofNat (48 + u % 10)].length - 1 = ((decDigits (u / 10)).length - 1) + 1 := by simp; omega
      rw [e, Nat.pow_succ]
      omega
theorem dec_len15 (u : Nat) (h : u ≤ 999999999999999) : (decDigits u).length ≤ 15 := by
  by_cases h0 : u = 0
  · subst h0; rw [dec_small (by omega)]; simp
  · have := dec_len u (by omega)
    by_cases hl : (decDigits u).length ≤ 15
    · exact hl
    · have h2 : 10 ^ 15 ≤ 10 ^ ((decDigits u).length - 1) := Nat.pow_le_pow_right (by omega) (by omega)
      omega
theorem dig_back {c : UInt8} (h : isDigB c = true) : UInt8.ofNat (48 + ((c.toNat : Int) - 48).toNat) = c := by
  have := digB h
  apply UInt8.toNat_inj.1
  rw [dig_nat (by omega)]
  omega
theorem list_snoc (l : List UInt8) (h : l ≠ []) : ∃ m c, l = m ++ [c] := ⟨l.dropLast, l.getLast h, (List.dropLast_concat_getLast h).symm⟩
/-- Digits with no nought ahead are their number's numeral. -/
theorem dec_unique : ∀ (n : Nat) (d : List UInt8), d.length ≤ n → d ≠ [] → d.all isDigB = true → (d.getD 0 0 = 48 → d = [48]) → d = decDigits (valD d).toNat
  | 0, d, h, hne, _, _ => absurd (List.eq_nil_of_length_eq_zero (by omega)) hne
  | n + 1, d, h, hne, hall, hz => by
    obtain ⟨m, c, rfl⟩ := list_snoc d hne
    rw [List.all_append, Bool.and_eq_true] at hall
    have hc : isDigB c = true := by simpa using hall.2
    have hcd := digB hc
    by_cases hm : m = []
    · subst hm
      have : valD ([] ++ [c]) = (c.toNat : Int) - 48 := by rw [valD_snoc]; simp [valD]
      rw [this, dec_small (by omega), dig_back hc]; rfl
    · have hh : m.getD 0 0 ≠ 48 := fun e => by
        have h3 := hz (by rw [getD_app m _ hm]; exact e)
        have h4 := congrArg List.length h3
        have hl : 0 < m.length := List.length_pos_iff.2 hm
        rw [List.length_append] at h4
        simp only [List.length_cons, List.length_nil] at h4
        omega
      have ih := dec_unique n m (by simp at h; omega) hm hall.1 (fun e => absurd e hh)
      have hv := valD_bd m hall.1
      have hpos : 1 ≤ valD m := by
        rcases Int.lt_or_le (valD m) 1 with hlt | hle
        · have e0 : (valD m).toNat = 0 := by omega
          rw [e0] at ih
          rw [ih, dec_small (by omega)] at hh
          exact absurd rfl hh
        · exact hle
      rw [valD_snoc]
      have hb : ¬ (10 * valD m + ((c.toNat : Int) - 48)).toNat < 10 := by omega
      rw [dec_big hb, show (10 * valD m + ((c.toNat : Int) - 48)).toNat / 10 = (valD m).toNat by omega, ← ih, show (10 * valD m + ((c.toNat : Int) - 48)).toNat % 10 = ((c.toNat : Int) - 48).toNat by omega, dig_back hc]

theorem head_dig (u : Nat) : isDigB ((decDigits u).getD 0 0) = true := by
  have h := dec_all u
  cases hd : decDigits u with
  | nil => exact absurd hd (dec_ne u)
  | cons b t => rw [hd] at h; simp at h; exact h.1

theorem digitsOf_pos {b : UInt8} {t : List UInt8} (h : b ≠ 45) : belowT (b :: t) = false ∧ digitsOf (b :: t) = b :: t := by
  have h1 : belowT (b :: t) = false := by unfold belowT; simp [h]
  exact ⟨h1, by unfold digitsOf; rw [h1]; rfl⟩
theorem digitsOf_neg (t : List UInt8) : belowT (45 :: t) = true ∧ digitsOf (45 :: t) = t := ⟨rfl, rfl⟩

theorem numR_itoa (n : Int) (h0 : -999999999999999 ≤ n) (h1 : n ≤ 999999999999999) : numR (itoa n) = (n, true) := by
  unfold itoa
  by_cases hn : n < 0
  · rw [if_pos hn]
    obtain ⟨e1, e2⟩ := digitsOf_neg (decDigits n.natAbs)
    have hz : ((decDigits n.natAbs).getD 0 0 == 48) = false := by
      rw [← Bool.not_eq_true, beq_iff_eq]
      intro h; have := dec_head _ h; omega
    have hne : (decDigits n.natAbs).isEmpty = false := by
      rw [← Bool.not_eq_true, List.isEmpty_iff]; exact dec_ne _
    have hno : noneT (45 :: decDigits n.natAbs) = false := by
      unfold noneT
      rw [e2, hne, hz, decide_eq_false (by have := dec_len15 n.natAbs (by omega); omega)]; rfl
    unfold numR
    rw [hno, e2, e1, dec_all, valD_dec]
    simp
    omega
  · rw [if_neg hn]
    have hd := digB (head_dig n.toNat)
    cases hl : decDigits n.toNat with
    | nil => exact absurd hl (dec_ne _)
    | cons b t =>
      have hb : b ≠ 45 := by
        rintro rfl
        rw [hl] at hd
        have h4 : ((([45] : List UInt8) ++ t).getD 0 0).toNat = 45 := rfl
        have h5 : (((45 :: t : List UInt8)).getD 0 0).toNat = 45 := rfl
        omega
      obtain ⟨e1, e2⟩ := digitsOf_pos (t := t) hb
      have hno : noneT (b :: t) = false := by
        unfold noneT
        rw [e2, decide_eq_false (by have := dec_len15 n.toNat (by omega); rw [hl] at this; omega)]
        by_cases h48 : b = 48
        · have hz := dec_head n.toNat (by rw [hl, h48]; rfl)
          rw [hz, dec_small (by omega)] at hl
          rw [← hl]; rfl
        · simp [h48]
      have hall := dec_all n.toNat
      have hval := valD_dec n.toNat
      rw [hl] at hall hval
      unfold numR
      rw [hno, e2, e1, hall, hval]
      simp
      omega
theorem itoa_numR (l : List UInt8) (n : Int) (h : numR l = (n, true)) : l = itoa n ∧ -999999999999999 ≤ n ∧ n ≤ 999999999999999 := by
  unfold numR at h
  cases hno : noneT l with
  | true => rw [hno] at h; simp at h
  | false =>
    rw [hno] at h
    cases hall : (digitsOf l).all isDigB with
    | false => rw [hall] at h; simp at h
    | true =>
      rw [hall] at h
      simp only [Bool.false_eq_true, if_false, if_true, Prod.mk.injEq, and_true] at h
      unfold noneT at hno
      simp only [Bool.or_eq_false_iff, Bool.and_eq_false_iff, decide_eq_false_iff_not, beq_eq_false_iff_ne, Bool.not_eq_false', beq_iff_eq] at hno
      obtain ⟨hne, hlen, hz⟩ := hno
      have hne2 : digitsOf l ≠ [] := fun e => by rw [e] at hne; cases hne
      have hb := valD_full (by omega) hall
      cases l with
      | nil => exact absurd rfl hne2
      | cons b t =>
        by_cases h45 : b = 45
        · subst h45
          obtain ⟨e1, e2⟩ := digitsOf_neg t
          rw [e2] at hne2 hall hz hb h
          rw [e1] at h
          have hz2 : t.getD 0 0 ≠ 48 := by
            rcases hz with hz | hz
            · exact hz
            · cases hz
          have hu := dec_unique t.length t (Nat.le_refl _) hne2 hall (fun e => absurd e hz2)
          have hpos : 1 ≤ valD t := by
            rcases Int.lt_or_le (valD t) 1 with hlt | hle
            · have e0 : (valD t).toNat = 0 := by omega
              rw [e0] at hu
              rw [hu, dec_small (by omega)] at hz2
              exact absurd rfl hz2
            · exact hle
          simp only [if_true] at h
          subst h
          refine ⟨?_, by omega, by omega⟩
          unfold itoa
          rw [if_pos (by omega), show (-valD t).natAbs = (valD t).toNat by omega, ← hu]
        · obtain ⟨e1, e2⟩ := digitsOf_pos (t := t) h45
          rw [e2] at hne2 hall hz hb h
          rw [e1] at h
          have hz2 : (b :: t).getD 0 0 = 48 → b :: t = [48] := by
            intro e
            rcases hz with hz | hz
            · exact absurd e hz
            · exact hz
          have hu := dec_unique (b :: t).length (b :: t) (Nat.le_refl _) hne2 hall hz2
          simp only [Bool.false_eq_true, if_false] at h
          subst h
          refine ⟨?_, by omega, by omega⟩
          unfold itoa
          rw [if_neg (by omega), ← hu]

/-! ### the library's reading of a numeral -/
def valN (acc : Nat) (l : List UInt8) : Nat := l.foldl (fun n c => n * 10 + (c.toNat - 48)) acc
theorem valN_ge : ∀ (l : List UInt8) (acc : Nat), acc ≤ valN acc l
  | [], acc => Nat.le_refl _
  | c :: r, acc => Nat.le_trans (by omega) (valN_ge r (acc * 10 + (c.toNat - 48)))
theorem parse_ok : ∀ (l : List UInt8) (acc : Nat), l.all isDigB = true → valN acc l < 1844674407370955162 → parseUint10 acc l = .ok (valN acc l)
  | [], acc, _, _ => rfl
  | c :: r, acc, h, hv => by
    rw [List.all_cons, Bool.and_eq_true] at h
    have hc := digB h.1
    have hg := valN_ge r (acc * 10 + (c.toNat - 48))
    have hv' : valN (acc * 10 + (c.toNat - 48)) r < 1844674407370955162 := hv
    unfold parseUint10
    rw [if_pos (by omega), if_neg (by omega), if_neg (by omega)]
    exact parse_ok r _ h.2 hv'
theorem valN_valD : ∀ (l : List UInt8) (acc : Nat), l.all isDigB = true → ((valN acc l : Nat) : Int) = l.foldl (fun n c => 10 * n + ((c.toNat : Int) - 48)) (acc : Int)
  | [], acc, _ => rfl
  | c :: r, acc, h => by
    rw [List.all_cons, Bool.and_eq_true] at h
    have hc := digB h.1
    have := valN_valD r (acc * 10 + (c.toNat - 48)) h.2
    show ((valN (acc * 10 + (c.toNat - 48)) r : Nat) : Int) = r.foldl _ (10 * (acc : Int) + ((c.toNat : Int) - 48))
    rw [this]
    congr 1
    omega
theorem parse_dec (u : Nat) (h : u ≤ 999999999999999) : parseMag (decDigits u) = .ok u := by
  have hv : valN 0 (decDigits u) = u := by
    have := valN_valD (decDigits u) 0 (dec_all u)
    have h2 := valD_dec u
    unfold valD at h2
    rw [show ((0 : Nat) : Int) = 0 from rfl, h2] at this
    omega
  unfold parseMag
  rw [if_neg (dec_ne u), parse_ok _ _ (dec_all u) (by omega), hv]
theorem atoi_itoa (n : Int) (h0 : -999999999999999 ≤ n) (h1 : n ≤ 999999999999999) : atoiAll (itoa n) = .ok n := by
  unfold itoa
  by_cases hn : n < 0
  · rw [if_pos hn, atoiAll_minus, parse_dec _ (by omega)]
    unfold signed
    simp only
    rw [if_neg (by omega)]
    congr 1; omega
  · rw [if_neg hn]
    have hd := digB (head_dig n.toNat)
    have hp := parse_dec n.toNat (by omega)
    cases hl : decDigits n.toNat with
    | nil => exact absurd hl (dec_ne _)
    | cons b t =>
      rw [hl] at hd hp
      have hb : ((b :: t).getD 0 0) = b := rfl
      rw [hb] at hd
      rw [atoiAll_plain b t (by omega) (by omega), hp]
      unfold signless
      simp only
      rw [if_neg (by omega)]
      congr 1; omega
theorem numV_eq (l : List UInt8) : numV l = if (numR l).2 then .iface 3 (.int .i64 (numR l).1) else halfV := by
  obtain ⟨⟨n, ok⟩, hx⟩ : ∃ x, numR l = x := ⟨_, rfl⟩
  rw [hx]
  cases ok with
  | true =>
    obtain ⟨rfl, h0, h1⟩ := itoa_numR l n hx
    unfold numV
    rw [atoi_itoa n h0 h1]
    simp only [if_true]
    rw [if_pos ⟨trivial, h0, h1⟩]
  | false =>
    simp only [Bool.false_eq_true, if_false]
    unfold numV
    cases ha : atoiAll l with
    | ok m =>
      simp only
      by_cases hc : itoa m = l ∧ -999999999999999 ≤ m ∧ m ≤ 999999999999999
      · have := numR_itoa m hc.2.1 hc.2.2
        rw [hc.1, hx] at this
        cases this
      · rw [if_neg hc]
    | _ => rfl
end Go.Proofs.YtccjfoldjbmnfaaDoor
