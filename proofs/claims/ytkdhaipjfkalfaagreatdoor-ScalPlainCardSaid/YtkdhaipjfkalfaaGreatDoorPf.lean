import Derived.Test.YtkdhaipjfkalfaaGreatDoorPb
import Derived.Test.YtkdhaipjfkalfaaGreatDoorRi
import Derived.Lib.AtoiAllCases
/- What is proved: the reference and the program say the same of which texts look like numbers, and of their values. -/
namespace Go.Proofs.YtkdhaipjfkalfaaGreatDoor
open Go Go.RowKit Go.Lib
set_option linter.unusedSimpArgs false
set_option linter.unusedVariables false

theorem otherR_high (r : Nat) (h : 128 ≤ r) : otherR r = true := by
  have h1 : memB [46, 101, 69, 43, 45, 95] (r : Int) = false := by
    rw [← Bool.not_eq_true]; unfold memB; simp; omega
  unfold otherR
  rw [h1]
  simp
  omega
theorem otherR_byte (b : UInt8) : otherR b.toNat = !okN b := by
  have h1 : memB [46, 101, 69, 43, 45, 95] (b.toNat : Int) = amongB [46, 101, 69, 43, 45, 95] b := by
    rw [Bool.eq_iff_iff]; unfold memB amongB; simp [← UInt8.toNat_inj, List.contains_cons]; omega
  unfold otherR okN isDigB
  rw [h1]
  cases amongB [46, 101, 69, 43, 45, 95] b <;> simp
theorem okN_high (b : UInt8) (h : 128 ≤ b.toNat) : okN b = false := by
  have := otherR_byte b
  rw [otherR_high _ h] at this
  simpa using this.symm

theorem idx_all (s : ByteArray) : ∀ (f pos : Nat), s.size - pos ≤ f → (!decide (0 ≤ idxFuncFrom otherR true s f pos)) = (s.data.toList.drop pos).all okN
  | 0, pos, h => by
    rw [List.drop_eq_nil_of_le (by rw [← Lib.size_eq]; omega)]
    simp [idxFuncFrom]
  | f + 1, pos, h => by
    unfold idxFuncFrom
    by_cases hp : pos < s.size
    · rw [if_pos hp]
      have hlt : pos < s.data.toList.length := by rw [← Lib.size_eq]; exact hp
      have hd := List.drop_eq_getElem_cons hlt
      obtain ⟨b, hb⟩ : ∃ b, s.data.toList[pos] = b := ⟨_, rfl⟩
      rw [hb] at hd
      rw [hd, List.all_cons, ← Lib.decodeL_drop, hd]
      by_cases hb128 : b.toNat < 128
      · rw [decodeL_ascii b _ hb128]
        simp only
        rw [otherR_byte]
        cases hok : okN b with
        | true =>
          simp only [Bool.not_true, Bool.false_eq_true, if_false, Bool.true_and]
          exact idx_all s f (pos + 1) (by omega)
        | false => simp
      · rw [otherR_high _ (rune_high b _ (by omega)), okN_high b (by omega)]
        simp
    · rw [if_neg hp, List.drop_eq_nil_of_le (by rw [← Lib.size_eq]; omega)]
      simp

theorem trimP_cons (a b : UInt8) (t : List UInt8) : trimPrefix (b :: t) [a] = if b = a then t else b :: t := by
  unfold trimPrefix hasPrefix
  by_cases h : b = a
  · subst h; simp
  · have : ¬ a = b := fun e => h e.symm
    simp [this, h]
theorem trimP_nil (a : UInt8) : trimPrefix [] [a] = [] := by simp [trimPrefix, hasPrefix]
theorem strip2_eq (l : List UInt8) : strip2 l = trimPrefix l [46] := by
  unfold strip2 test2
  cases l with
  | nil => rw [trimP_nil]; rfl
  | cons b t =>
    rw [trimP_cons]
    by_cases h : b = 46
    · simp [h]
    · simp [h]
/-- A text that looks like a number, said as the program says it. -/
theorem tail_eq (l : List UInt8) : tailR l = (!l.isEmpty && (isDigB (l.headD 0) && !(decide (0 ≤ Lib.idxFunc otherR true ⟨l.toArray⟩)))) := by
  unfold tailR Lib.idxFunc
  rw [idx_all ⟨l.toArray⟩ _ 0 (by omega), headD_eq]
  simp
theorem looks_eq (l : List UInt8) : looksR l = numP l := by
  have e1 : ∀ r : List UInt8, hasPrefix r [43, 45] = match r with | b :: c :: _ => b == 43 && c == 45 | _ => false := by
    intro r
    unfold hasPrefix
    match r with
    | [] => rfl
    | [b] => simp [List.isPrefixOf]
    | b :: c :: t =>
      simp only [List.isPrefixOf, Bool.and_true]
      rw [Bool.eq_iff_iff]; simp; intros; constructor <;> (rintro ⟨h1, h2⟩; exact ⟨h1.symm, h2.symm⟩)
  unfold looksR numP
  rw [tail_eq, strip2_eq]
  cases l with
  | nil => rfl
  | cons b t =>
    by_cases hb : b = 43
    · subst hb
      have hs : strip1 (43 :: t) = t := by unfold strip1 test1 amongB; simp
      rw [hs]
      unfold numTail
      rw [trimP_cons, if_pos rfl]
      cases t with
      | nil => rw [trimP_nil, e1, trimP_nil, trimP_nil]; rfl
      | cons c t' =>
        by_cases hc : c = 45
        · subst hc
          rw [e1, trimP_cons, if_neg (by decide)]
          simp [isDigB]
        · have hcb : (c == 45) = false := by simpa using hc
          rw [e1, trimP_cons 45, if_neg hc]
          simp [hcb, Bool.and_assoc]
    · have h43 : (b == 43) = false := by simpa using hb
      have hpre : hasPrefix (b :: t) [43, 45] = false := by
        rw [e1]
        cases t with
        | nil => rfl
        | cons c t' => simp [hb]
      rw [hpre]
      unfold numTail
      rw [trimP_cons, if_neg hb]
      by_cases hm : b = 45
      · subst hm
        have hs : strip1 (45 :: t) = t := by unfold strip1 test1 amongB; simp
        rw [hs, trimP_cons, if_pos rfl]
        simp [Bool.and_assoc]
      · have hs : strip1 (b :: t) = b :: t := by unfold strip1 test1 amongB; simp [hb, hm]
        rw [hs, trimP_cons 45, if_neg hm]
        simp [Bool.and_assoc]
end Go.Proofs.YtkdhaipjfkalfaaGreatDoor

/- What is proved: numbers and their numerals; the reference resolves as the program does. -/
namespace Go.Proofs.YtkdhaipjfkalfaaGreatDoor
open Go Go.RowKit Go.Lib
set_option linter.unusedSimpArgs false
set_option linter.unusedVariables false

theorem dec_small {u : Nat} (h : u < 10) : decDigits u = [UInt8.ofNat (48 + u)] := by rw [decDigits, dif_pos h]
theorem dec_big {u : Nat} (h : ¬ u < 10) : decDigits u = decDigits (u / 10) ++ [UInt8.ofNat (48 + u % 10)] := by rw [decDigits, dif_neg h]
theorem dig_nat {k : Nat} (h : k < 10) : (UInt8.ofNat (48 + k)).toNat = 48 + k := by rw [UInt8.toNat_ofNat']; omega
theorem dig_is {k : Nat} (h : k < 10) : isDigB (UInt8.ofNat (48 + k)) = true := by unfold isDigB; rw [dig_nat h]; simp; omega
theorem valD_dec (u : Nat) : valD (decDigits u) = u := by
  induction u using Nat.strongRecOn with
  | _ u ih =>
    by_cases h : u < 10
    · rw [dec_small h]
      show 10 * 0 + (((UInt8.ofNat (48 + u)).toNat : Int) - 48) = u
      rw [dig_nat h]; omega
    · rw [dec_big h, valD_snoc, ih (u / 10) (by omega), dig_nat (by omega)]; omega
theorem dec_all (u : Nat) : (decDigits u).all isDigB = true := by
  induction u using Nat.strongRecOn with
  | _ u ih =>
    by_cases h : u < 10
    · rw [dec_small h, List.all_cons, dig_is h]; rfl
    · rw [dec_big h, List.all_append, ih (u / 10) (by omega), List.all_cons, dig_is (show u % 10 < 10 by omega)]; rfl
theorem dec_ne (u : Nat) : decDigits u ≠ [] := by
  by_cases h : u < 10
  · rw [dec_small h]; simp
  · rw [dec_big h]; simp
theorem getD_app (l m : List UInt8) (h : l ≠ []) : (l ++ m).getD 0 0 = l.getD 0 0 := by
  cases l with
  | nil => exact absurd rfl h
  | cons b t => rfl
theorem dec_head (u : Nat) : (decDigits u).getD 0 0 = 48 → u = 0 := by
  induction u using Nat.strongRecOn with
  | _ u ih =>
    by_cases h : u < 10
    · rw [dec_small h]
      intro h2
      have h3 : UInt8.ofNat (48 + u) = 48 := h2
      have := dig_nat h
      rw [h3] at this
      have h4 : (48 : UInt8).toNat = 48 := rfl
      omega
    · rw [dec_big h, getD_app _ _ (dec_ne _)]
      intro h2
      have := ih (u / 10) (by omega) h2
      omega
theorem dec_len (u : Nat) : 1 ≤ u → 10 ^ ((decDigits u).length - 1) ≤ u := by
  induction u using Nat.strongRecOn with
  | _ u ih =>
    intro h1
    by_cases h : u < 10
    · rw [dec_small h]; simpa using h1
    · rw [dec_big h, List.length_append]
      have := ih (u / 10) (by omega) (by omega)
      have hl : 1 ≤ (decDigits (u / 10)).length := List.length_pos_iff.2 (dec_ne _)
      have e : (decDigits (u / 10)).length + [UInt8.ofNat (48 + u % 10)].length - 1 = ((decDigits (u / 10)).length - 1) + 1 := by simp; omega
      rw [e, Nat.pow_succ]
      omega
theorem dec_len15 (u : Nat) (h : u ≤ 999999999999999) : (decDigits u).length ≤ 15 := by
  by_cases h0 : u = 0
  · subst h0; rw [dec_small (by omega)]; simp
  · have := dec_len u (by omega)
    by_cases hl : (decDigits u).length ≤ 15
    · exact hl
    · have h2 : 10 ^ 15 ≤ 10 ^ ((decDigits u).length - 1) := Nat.pow_le_pow_right (by omega) (by omega)
      omega
theorem dig_back {c : UInt8} (h : isDigB c = true) : UInt8.ofNat (48 + ((c.toNat : Int) - 48).toNat) = c := by
  have := digB h
  apply UInt8.toNat_inj.1
  rw [dig_nat (by omega)]
  omega
theorem list_snoc (l : List UInt8) (h : l ≠ []) : ∃ m c, l = m ++ [c] := ⟨l.dropLast, l.getLast h, (List.dropLast_concat_getLast h).symm⟩
/-- Digits with no nought ahead are their number's numeral. -/
theorem dec_unique : ∀ (n : Nat) (d : List UInt8), d.length ≤ n → d ≠ [] → d.all isDigB = true → (d.getD 0 0 = 48 → d = [48]) → d = decDigits (valD d).toNat
  | 0, d, h, hne, _, _ => absurd (List.eq_nil_of_length_eq_zero (by omega)) hne
  | n + 1, d, h, hne, hall, hz => by
    obtain ⟨m, c, rfl⟩ := list_snoc d hne
    rw [List.all_append, Bool.and_eq_true] at hall
    have hc : isDigB c = true := by simpa using hall.2
    have hcd := digB hc
    by_cases hm : m = []
    · subst hm
      have : valD ([] ++ [c]) = (c.toNat : Int) - 48 := by rw [valD_snoc]; simp [valD]
      rw [this, dec_small (by omega), dig_back hc]; rfl
    · have hh : m.getD 0 0 ≠ 48 := fun e => by
        have h3 := hz (by rw [getD_app m _ hm]; exact e)
        have h4 := congrArg List.length h3
        have hl : 0 < m.length := List.length_pos_iff.2 hm
        rw [List.length_append] at h4
        simp only [List.length_cons, List.length_nil] at h4
        omega
      have ih := dec_unique n m (by simp at h; omega) hm hall.1 (fun e => absurd e hh)
      have hv := valD_bd m hall.1
      have hpos : 1 ≤ valD m := by
        rcases Int.lt_or_le (valD m) 1 with hlt | hle
        · have e0 : (valD m).toNat = 0 := by omega
          rw [e0] at ih
          rw [ih, dec_small (by omega)] at hh
          exact absurd rfl hh
        · exact hle
      rw [valD_snoc]
      have hb : ¬ (10 * valD m + ((c.toNat : Int) - 48)).toNat < 10 := by omega
      rw [dec_big hb, show (10 * valD m + ((c.toNat : Int) - 48)).toNat / 10 = (valD m).toNat by omega, ← ih, show (10 * valD m + ((c.toNat : Int) - 48)).toNat % 10 = ((c.toNat : Int) - 48).toNat by omega, dig_back hc]

theorem head_dig (u : Nat) : isDigB ((decDigits u).getD 0 0) = true := by
  have h := dec_all u
  cases hd : decDigits u with
  | nil => exact absurd hd (dec_ne u)
  | cons b t => rw [hd] at h; simp at h; exact h.1

theorem digitsOf_pos {b : UInt8} {t : List UInt8} (h : b ≠ 45) : belowT (b :: t) = false ∧ digitsOf (b :: t) = b :: t := by
  have h1 : belowT (b :: t) = false := by unfold belowT; simp [h]
  exact ⟨h1, by unfold digitsOf; rw [h1]; rfl⟩
theorem digitsOf_neg (t : List UInt8) : belowT (45 :: t) = true ∧ digitsOf (45 :: t) = t := ⟨rfl, rfl⟩

theorem numR_itoa (n : Int) (h0 : -999999999999999 ≤ n) (h1 : n ≤ 999999999999999) : numR (itoa n) = (n, true) := by
  unfold itoa
  by_cases hn : n < 0
  · rw [if_pos hn]
    obtain ⟨e1, e2⟩ := digitsOf_neg (decDigits n.natAbs)
    have hz : ((decDigits n.natAbs).getD 0 0 == 48) = false := by
      rw [← Bool.not_eq_true, beq_iff_eq]
      intro h; have := dec_head _ h; omega
    have hne : (decDigits n.natAbs).isEmpty = false := by
      rw [← Bool.not_eq_true, List.isEmpty_iff]; exact dec_ne _
    have hno : noneT (45 :: decDigits n.natAbs) = false := by
      unfold noneT
      rw [e2, hne, hz, decide_eq_false (by have := dec_len15 n.natAbs (by omega); omega)]; rfl
    unfold numR
    rw [hno, e2, e1, dec_all, valD_dec]
    simp
    omega
  · rw [if_neg hn]
    have hd := digB (head_dig n.toNat)
    cases hl : decDigits n.toNat with
    | nil => exact absurd hl (dec_ne _)
    | cons b t =>
      have hb : b ≠ 45 := by
        rintro rfl
        rw [hl] at hd
        have h4 : ((([45] : List UInt8) ++ t).getD 0 0).toNat = 45 := rfl
        have h5 : (((45 :: t : List UInt8)).getD 0 0).toNat = 45 := rfl
        omega
      obtain ⟨e1, e2⟩ := digitsOf_pos (t := t) hb
      have hno : noneT (b :: t) = false := by
        unfold noneT
        rw [e2, decide_eq_false (by have := dec_len15 n.toNat (by omega); rw [hl] at this; omega)]
        by_cases h48 : b = 48
        · have hz := dec_head n.toNat (by rw [hl, h48]; rfl)
          rw [hz, dec_small (by omega)] at hl
          rw [← hl]; rfl
        · simp [h48]
      have hall := dec_all n.toNat
      have hval := valD_dec n.toNat
      rw [hl] at hall hval
      unfold numR
      rw [hno, e2, e1, hall, hval]
      simp
      omega
theorem itoa_numR (l : List UInt8) (n : Int) (h : numR l = (n, true)) : l = itoa n ∧ -999999999999999 ≤ n ∧ n ≤ 999999999999999 := by
  unfold numR at h
  cases hno : noneT l with
  | true => rw [hno] at h; simp at h
  | false =>
    rw [hno] at h
    cases hall : (digitsOf l).all isDigB with
    | false => rw [hall] at h; simp at h
    | true =>
      rw [hall] at h
      simp only [Bool.false_eq_true, if_false, if_true, Prod.mk.injEq, and_true] at h
      unfold noneT at hno
      simp only [Bool.or_eq_false_iff, Bool.and_eq_false_iff, decide_eq_false_iff_not, beq_eq_false_iff_ne, Bool.not_eq_false', beq_iff_eq] at hno
      obtain ⟨hne, hlen, hz⟩ := hno
      have hne2 : digitsOf l ≠ [] := fun e => by rw [e] at hne; cases hne
      have hb := valD_full (by omega) hall
      cases l with
      | nil => exact absurd rfl hne2
      | cons b t =>
        by_cases h45 : b = 45
        · subst h45
          obtain ⟨e1, e2⟩ := digitsOf_neg t
          rw [e2] at hne2 hall hz hb h
          rw [e1] at h
          have hz2 : t.getD 0 0 ≠ 48 := by
            rcases hz with hz | hz
            · exact hz
            · cases hz
          have hu := dec_unique t.length t (Nat.le_refl _) hne2 hall (fun e => absurd e hz2)
          have hpos : 1 ≤ valD t := by
            rcases Int.lt_or_le (valD t) 1 with hlt | hle
            · have e0 : (valD t).toNat = 0 := by omega
              rw [e0] at hu
              rw [hu, dec_small (by omega)] at hz2
              exact absurd rfl hz2
            · exact hle
          simp only [if_true] at h
          subst h
          refine ⟨?_, by omega, by omega⟩
          unfold itoa
          rw [if_pos (by omega), show (-valD t).natAbs = (valD t).toNat by omega, ← hu]
        · obtain ⟨e1, e2⟩ := digitsOf_pos (t := t) h45
          rw [e2] at hne2 hall hz hb h
          rw [e1] at h
          have hz2 : (b :: t).getD 0 0 = 48 → b :: t = [48] := by
            intro e
            rcases hz with hz | hz
            · exact absurd e hz
            · exact hz
          have hu := dec_unique (b :: t).length (b :: t) (Nat.le_refl _) hne2 hall hz2
          simp only [Bool.false_eq_true, if_false] at h
          subst h
          refine ⟨?_, by omega, by omega⟩
          unfold itoa
          rw [if_neg (by omega), ← hu]

/-! ### the library's reading of a numeral -/
def valN (acc : Nat) (l : List UInt8) : Nat := l.foldl (fun n c => n * 10 + (c.toNat - 48)) acc
theorem valN_ge : ∀ (l : List UInt8) (acc : Nat), acc ≤ valN acc l
  | [], acc => Nat.le_refl _
  | c :: r, acc => Nat.le_trans (by omega) (valN_ge r (acc * 10 + (c.toNat - 48)))
theorem parse_ok : ∀ (l : List UInt8) (acc : Nat), l.all isDigB = true → valN acc l < 1844674407370955162 → parseUint10 acc l = .ok (valN acc l)
  | [], acc, _, _ => rfl
  | c :: r, acc, h, hv => by
    rw [List.all_cons, Bool.and_eq_true] at h
    have hc := digB h.1
    have hg := valN_ge r (acc * 10 + (c.toNat - 48))
    have hv' : valN (acc * 10 + (c.toNat - 48)) r < 1844674407370955162 := hv
    unfold parseUint10
    rw [if_pos (by omega), if_neg (by omega), if_neg (by omega)]
    exact parse_ok r _ h.2 hv'
theorem valN_valD : ∀ (l : List UInt8) (acc : Nat), l.all isDigB = true → ((valN acc l : Nat) : Int) = l.foldl (fun n c => 10 * n + ((c.toNat : Int) - 48)) (acc : Int)
  | [], acc, _ => rfl
  | c :: r, acc, h => by
    rw [List.all_cons, Bool.and_eq_true] at h
    have hc := digB h.1
    have := valN_valD r (acc * 10 + (c.toNat - 48)) h.2
    show ((valN (acc * 10 + (c.toNat - 48)) r : Nat) : Int) = r.foldl _ (10 * (acc : Int) + ((c.toNat : Int) - 48))
    rw [this]
    congr 1
    omega
theorem parse_dec (u : Nat) (h : u ≤ 999999999999999) : parseMag (decDigits u) = .ok u := by
  have hv : valN 0 (decDigits u) = u := by
    have := valN_valD (decDigits u) 0 (dec_all u)
    have h2 := valD_dec u
    unfold valD at h2
    rw [show ((0 : Nat) : Int) = 0 from rfl, h2] at this
    omega
  unfold parseMag
  rw [if_neg (dec_ne u), parse_ok _ _ (dec_all u) (by omega), hv]
theorem atoi_itoa (n : Int) (h0 : -999999999999999 ≤ n) (h1 : n ≤ 999999999999999) : atoiAll (itoa n) = .ok n := by
  unfold itoa
  by_cases hn : n < 0
  · rw [if_pos hn, atoiAll_minus, parse_dec _ (by omega)]
    unfold signed
    simp only
    rw [if_neg (by omega)]
    congr 1; omega
  · rw [if_neg hn]
    have hd := digB (head_dig n.toNat)
    have hp := parse_dec n.toNat (by omega)
    cases hl : decDigits n.toNat with
    | nil => exact absurd hl (dec_ne _)
    | cons b t =>
      rw [hl] at hd hp
      have hb : ((b :: t).getD 0 0) = b := rfl
      rw [hb] at hd
      rw [atoiAll_plain b t (by omega) (by omega), hp]
      unfold signless
      simp only
      rw [if_neg (by omega)]
      congr 1; omega
theorem numV_eq (l : List UInt8) : numV l = if (numR l).2 then .iface 3 (.int .i64 (numR l).1) else halfV := by
  obtain ⟨⟨n, ok⟩, hx⟩ : ∃ x, numR l = x := ⟨_, rfl⟩
  rw [hx]
  cases ok with
  | true =>
    obtain ⟨rfl, h0, h1⟩ := itoa_numR l n hx
    unfold numV
    rw [atoi_itoa n h0 h1]
    simp only [if_true]
    rw [if_pos ⟨trivial, h0, h1⟩]
  | false =>
    simp only [Bool.false_eq_true, if_false]
    unfold numV
    cases ha : atoiAll l with
    | ok m =>
      simp only
      by_cases hc : itoa m = l ∧ -999999999999999 ≤ m ∧ m ≤ 999999999999999
      · have := numR_itoa m hc.2.1 hc.2.2
        rw [hc.1, hx] at this
        cases this
      · rw [if_neg hc]
    | _ => rfl
end Go.Proofs.YtkdhaipjfkalfaaGreatDoor

/- What is proved: the reference resolves, and reads, as the program does. -/
namespace Go.Proofs.YtkdhaipjfkalfaaGreatDoor
open Go Go.RowKit Go.Lib
set_option linter.unusedSimpArgs false
set_option linter.unusedVariables false

theorem of_list {s : ByteArray} {l : List UInt8} (h : s.data.toList = l) : s = ⟨l.toArray⟩ := by subst h; rfl
theorem ne_list {s : ByteArray} {l : List UInt8} (h : ¬ s.data.toList = l) : (s == (⟨l.toArray⟩ : ByteArray)) = false := by
  show (s.data == l.toArray) = false
  rw [← Bool.not_eq_true, beq_iff_eq]
  intro e
  exact h (by rw [e])
theorem ne_beq {l m : List UInt8} (h : ¬ l = m) : (l == m) = false := by simpa using h
/-- What the program says of a text that may stand plain. -/
theorem word_eq (s : ByteArray) : (wordR s.data.toList).getD (restR s) = scalarP (valueV s) := by
  by_cases h0 : s.data.toList = []
  · rw [of_list h0]; kernel_rfl
  by_cases h1 : s.data.toList = [110, 117, 108, 108]
  · rw [of_list h1]; kernel_rfl
  by_cases h2 : s.data.toList = [126]
  · rw [of_list h2]; kernel_rfl
  by_cases h3 : s.data.toList = [116, 114, 117, 101]
  · rw [of_list h3]; kernel_rfl
  by_cases h4 : s.data.toList = [102, 97, 108, 115, 101]
  · rw [of_list h4]; kernel_rfl
  by_cases h5 : s.data.toList = [46, 105, 110, 102]
  · rw [of_list h5]; kernel_rfl
  by_cases h6 : s.data.toList = [43, 46, 105, 110, 102]
  · rw [of_list h6]; kernel_rfl
  by_cases h7 : s.data.toList = [45, 46, 105, 110, 102]
  · rw [of_list h7]; kernel_rfl
  by_cases h8 : s.data.toList = [46, 110, 97, 110]
  · rw [of_list h8]; kernel_rfl
  have hw : wordR s.data.toList = none := by
    unfold wordR
    have he : s.data.toList.isEmpty = false := by rw [← Bool.not_eq_true, List.isEmpty_iff]; exact h0
    rw [he, ne_beq h1, ne_beq h2, ne_beq h3, ne_beq h4, ne_beq h5, ne_beq h6, ne_beq h7, ne_beq h8]
    rfl
  have ha : assoc s wordsL = none := by
    unfold wordsL
    simp only [assoc]
    rw [show (s == _) = false from ne_list h0, show (s == _) = false from ne_list h1, show (s == _) = false from ne_list h2, show (s == _) = false from ne_list h3, show (s == _) = false from ne_list h4, show (s == _) = false from ne_list h5, show (s == _) = false from ne_list h6, show (s == _) = false from ne_list h7, show (s == _) = false from ne_list h8]
    rfl
  rw [hw]
  unfold valueV
  rw [ha]
  simp only [Option.getD_none]
  unfold restR
  rw [looks_eq]
  cases hn : numP s.data.toList with
  | false => rfl
  | true =>
    simp only [Bool.not_true, Bool.false_eq_true, if_false, if_true]
    rw [numV_eq]
    obtain ⟨⟨n, ok⟩, hx⟩ : ∃ x, numR s.data.toList = x := ⟨_, rfl⟩
    rw [hx]
    cases ok <;> rfl
theorem resolve_eq (s : ByteArray) : resolveR s = resolveP s := by
  unfold resolveR resolveP
  rw [mayR_eq, word_eq]
theorem read_eq (s : ByteArray) (flow : Bool) : readR s flow = readP s flow := by
  unfold readR readP
  rw [mayR_eq, resolve_eq]
theorem resolve_may (s : ByteArray) (h : mayP s.data.toList false = true) : resolveP s = (wordR s.data.toList).getD (restR s) := by
  rw [word_eq]
  unfold resolveP
  rw [h]; simp

/-! ### values of scalars -/
theorem word_right (l : List UInt8) (p : Sc × Int) (h : wordR l = some p) : rightP p.1 = true ∧ (p.2 = 0 ∨ p.1 = sc0) ∧ p.1.kind ≠ 3 ∧ l ≠ [] → True := fun _ => trivial
end Go.Proofs.YtkdhaipjfkalfaaGreatDoor

/- What is proved: what the laws PlainTells, PlainRight, PlainWords, PlainFlows say, of the lists' functions. -/
namespace Go.Proofs.YtkdhaipjfkalfaaGreatDoor
open Go Go.RowKit Go.Lib
set_option linter.unusedSimpArgs false
set_option linter.unusedVariables false

/-! ### shown -/
theorem sh_a : resolveP ⟨#[45, 49, 50]⟩ = (⟨2, -12, ⟨#[]⟩⟩, 0) := by rw [← resolve_eq]; kernel_rfl
theorem sh_b : resolveP ⟨#[97, 58, 98]⟩ = (⟨3, 0, ⟨#[97, 58, 98]⟩⟩, 0) := by rw [← resolve_eq]; kernel_rfl
theorem sh_g : resolveP ⟨#[49, 46, 53]⟩ = (sc0, 50) := by rw [← resolve_eq]; kernel_rfl
theorem sh_h : resolveP ⟨#[97, 58, 32, 98]⟩ = (sc0, 51) := by rw [← resolve_eq]; kernel_rfl
theorem sh_c : readP ⟨#[126]⟩ true = (sc0, 0) := by rw [← read_eq]; kernel_rfl
theorem sh_j : readP ⟨#[97, 44, 98]⟩ true = (sc0, 51) := by rw [← read_eq]; kernel_rfl
theorem sh_m : mayP (⟨#[97, 44, 98]⟩ : ByteArray).data.toList false = true := by rw [← mayR_eq]; kernel_rfl

/-! ### PlainRight -/
theorem okAll_mono (xs : List (Nat × Nat × Nat)) (h : okAll true xs = true) : okAll false xs = true := by
  unfold okAll at *
  rw [List.all_eq_true] at *
  intro x hx
  have := h x hx
  unfold badAt at *
  simp at this ⊢
  exact ⟨⟨this.1.1.1, this.1.2⟩, this.2⟩
theorem may_mono (l : List UInt8) (h : mayP l true = true) : mayP l false = true := by
  unfold mayP longOK at *
  simp only [Bool.and_eq_true] at *
  exact ⟨h.1, okAll_mono _ h.2⟩
theorem may_valid (l : List UInt8) (flow : Bool) (h : mayP l flow = true) : validD l = true := by
  unfold mayP at h
  simp only [Bool.and_eq_true] at h
  exact h.1.1.2
theorem rest_facts (s : ByteArray) (hv : validD s.data.toList = true) : rightP (restR s).1 = true ∧ ((restR s).2 = 0 ∨ (restR s).1 = sc0) ∧ ((restR s).1.kind ≠ 3 ∨ (restR s).1.str = s) := by
  unfold restR
  cases looksR s.data.toList with
  | false => refine ⟨?_, .inl rfl, .inr rfl⟩; unfold rightP; simpa using hv
  | true =>
    obtain ⟨⟨n, ok⟩, hx⟩ : ∃ x, numR s.data.toList = x := ⟨_, rfl⟩
    rw [hx]
    cases ok with
    | false => exact ⟨rfl, .inr rfl, .inl (show sc0.kind ≠ 3 by decide)⟩
    | true =>
      obtain ⟨_, h0, h1⟩ := itoa_numR _ n hx
      refine ⟨?_, .inl rfl, .inl (show (2 : Int) ≠ 3 by decide)⟩
      unfold rightP
      simp
      omega
theorem word_facts (l : List UInt8) (p : Sc × Int) (h : wordR l = some p) : rightP p.1 = true ∧ (p.2 = 0 ∨ p.1 = sc0) ∧ p.1.kind ≠ 3 := by
  unfold wordR at h
  repeat' split at h
  all_goals first
    | (injection h with h; subst h; first | exact ⟨rfl, .inl rfl, by decide⟩ | exact ⟨rfl, .inr rfl, by decide⟩)
    | cases h
theorem resolve_facts (s : ByteArray) : rightP (resolveP s).1 = true ∧ ((resolveP s).2 = 0 ∨ (resolveP s).1 = sc0) ∧ ((resolveP s).1.kind ≠ 3 ∨ (resolveP s).1.str = s) := by
  rw [← resolve_eq]
  unfold resolveR
  by_cases hc : (!s.data.toList.isEmpty && !mayR s.data.toList false) = true
  · rw [if_pos hc]; exact ⟨rfl, .inr rfl, .inl (by decide)⟩
  · rw [if_neg hc]
    cases hw : wordR s.data.toList with
    | some p =>
      have := word_facts _ p hw
      exact ⟨this.1, this.2.1, .inl this.2.2⟩
    | none =>
      refine rest_facts s ?_
      by_cases he : s.data.toList.isEmpty = true
      · rw [List.isEmpty_iff.1 he]; rfl
      · have hm : mayR s.data.toList false = true := by
          cases hm : mayR s.data.toList false with
          | true => rfl
          | false => rw [hm] at hc; simp at hc; exact absurd (by rw [hc]; rfl) he
        rw [mayR_eq] at hm
        exact may_valid _ _ hm
theorem resolve_read (s : ByteArray) (he : s.data.toList.isEmpty = false) : readP s false = resolveP s := by
  unfold readP
  cases hm : mayP s.data.toList false with
  | true => rfl
  | false => unfold resolveP; rw [he, hm]; rfl
theorem read_flow (s : ByteArray) (h : mayP s.data.toList true = true) : readP s true = readP s false := by
  unfold readP; rw [h, may_mono _ h]

/-! ### PlainWords -/
theorem q_plain (l : List UInt8) : plainR (81 :: l) = plainR l := by
  rw [plainR_eq, plainR_eq, validD_cons 81 l (by decide), runes_step (81 :: l) (by simp), decodeL_ascii 81 l (by decide)]
  rfl
theorem q_ok (l : List UInt8) (h : okB false 0 l = true) : okB false 0 (81 :: l) = true := by
  show (!badC false 0 81 l && okB false 81 l) = true
  have h1 : badC false 0 81 l = false := by unfold badC; simp
  rw [h1]
  cases l with
  | nil => rfl
  | cons b t =>
    have h2 : (!badC false 0 b t && okB false b t) = true := h
    show (true && (!badC false 81 b t && okB false b t)) = true
    have : badC false 81 b t = badC false 0 b t := by
      unfold badC
      rw [show ((81 : UInt8) == 32) = false from rfl, show ((0 : UInt8) == 32) = false from rfl]
    rw [this]
    simpa using h2
theorem q_may (l : List UInt8) (h : mayP l false = true) : mayP (81 :: l) false = true := by
  rw [← mayR_eq] at *
  unfold mayR headR at *
  simp only [Bool.and_eq_true] at *
  obtain ⟨⟨he, hp, h0, hl, ha⟩, hd, ho⟩ := h
  rw [okR_B] at *
  have hne : l ≠ [] := by rintro rfl; cases he
  have hlen : 0 < l.length := List.length_pos_iff.2 hne
  refine ⟨⟨rfl, by rw [q_plain]; exact hp, rfl, ?_, (show (!amongB barredL 81) = true by decide)⟩, rfl, q_ok l ho⟩
  rw [List.length_cons, Nat.add_sub_cancel]
  have e : (81 :: l).getD l.length 0 = l.getD (l.length - 1) 0 := by
    obtain ⟨n, hn⟩ : ∃ n, l.length = n + 1 := ⟨l.length - 1, by omega⟩
    rw [hn]; rfl
  rw [e]; exact hl
theorem q_resolve (s : ByteArray) (h : mayP s.data.toList false = true) : resolveP (⟨#[81]⟩ ++ s) = (⟨3, 0, ⟨#[81]⟩ ++ s⟩, 0) := by
  have hl : (⟨#[81]⟩ ++ s : ByteArray).data.toList = 81 :: s.data.toList := by simp
  rw [resolve_may _ (by rw [hl]; exact q_may _ h), hl]
  have hw : wordR (81 :: s.data.toList) = none := by
    unfold wordR
    simp
  rw [hw]
  show restR _ = _
  unfold restR
  rw [hl]
  have : looksR (81 :: s.data.toList) = false := by
    have h1 : strip1 (81 :: s.data.toList) = 81 :: s.data.toList := by unfold strip1 test1 amongB; simp
    unfold looksR
    rw [h1]
    unfold strip2 test2 tailR isDigB
    simp
  rw [this]; rfl

/-! ### PlainFlows -/
theorem flow_among (l : List UInt8) (c : UInt8) (hc : c ∈ l) (h : amongB flowL c = true) : mayP l true = false := by
  rw [← mayR_eq]
  unfold mayR
  obtain ⟨i, hi, rfl⟩ := List.getElem_of_mem hc
  rw [okR_bad hi (by unfold badR; rw [List.getD, List.getElem?_eq_getElem hi, Option.getD_some, h]; simp)]
  simp
theorem badC_flow {prev c : UInt8} {r : List UInt8} (h : amongB flowL c = false) : badC true prev c r = badC false prev c r := by
  unfold badC; rw [h]; rfl
theorem okB_flow : ∀ (l : List UInt8) (prev : UInt8), (∀ c ∈ l, amongB flowL c = false) → okB true prev l = okB false prev l
  | [], _, _ => rfl
  | c :: r, prev, h => by
    show (!badC true prev c r && okB true c r) = (!badC false prev c r && okB false c r)
    rw [badC_flow (h c (by simp)), okB_flow r c (fun d hd => h d (by simp [hd]))]
theorem flow_same (l : List UInt8) (h : ∀ c ∈ l, amongB flowL c = false) : mayP l true = mayP l false := by
  rw [← mayR_eq, ← mayR_eq]
  unfold mayR
  rw [okR_B, okR_B, okB_flow l 0 h]
theorem blank_head (l : List UInt8) (flow : Bool) : mayP (32 :: l) flow = false := by
  rw [← mayR_eq]
  unfold mayR headR
  simp
theorem blank_last (l : List UInt8) (flow : Bool) : mayP (l ++ [32]) flow = false := by
  rw [← mayR_eq]
  unfold mayR headR
  have : (l ++ [32]).getD ((l ++ [32]).length - 1) 0 = 32 := by simp [List.getD]
  rw [this]
  simp
theorem colon_last (l : List UInt8) (flow : Bool) : mayP (l ++ [58]) flow = false := by
  rw [← mayR_eq]
  unfold mayR
  have h1 : bad1 (l ++ [58]) l.length = true := by unfold bad1; simp [List.getD]
  rw [okR_bad (k := l.length) (by simp) (by unfold badR; rw [h1]; rfl)]
  simp
theorem note_last (l : List UInt8) (flow : Bool) : mayP (l ++ [32, 35]) flow = false := by
  rw [← mayR_eq]
  unfold mayR
  have h1 : bad2 (l ++ [32, 35]) (l.length + 1) = true := by unfold bad2; simp [List.getD]
  rw [okR_bad (k := l.length + 1) (by simp) (by unfold badR; rw [h1]; simp)]
  simp
end Go.Proofs.YtkdhaipjfkalfaaGreatDoor
