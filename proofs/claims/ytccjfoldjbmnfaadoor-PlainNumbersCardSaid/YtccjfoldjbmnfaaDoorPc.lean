/- What is proved: the reference and the program say the same of which texts look like numbers, and of their values. -/
import Derived.Test.YtccjfoldjbmnfaaDoorPb
import Derived.Lib.AtoiAllCases
namespace Go.Proofs.YtccjfoldjbmnfaaDoor
open Go Go.RowKit Go.Lib
set_option linter.unusedSimpArgs false
set_option linter.unusedVariables false

theorem otherR_high (r : Nat) (h : 128 ≤ r) : otherR r = true := by
  have h1 : memB [46, 101, 69, 43, 45, 95] (r : Int) = false := by
    rw [← Bool.not_eq_true]; unfold memB; simp; omega
  unfold otherR
  rw [h1]
  simp
  omega
theorem otherR_byte (b : UInt8) : otherR b.toNat = !okN b := by
  have h1 : memB [46, 101, 69, 43, 45, 95] (b.toNat : Int) = amongB [46, 101, 69, 43, 45, 95] b := by
    rw [Bool.eq_iff_iff]; unfold memB amongB; simp [← UInt8.toNat_inj, List.contains_cons]; omega
  unfold otherR okN isDigB
  rw [h1]
  cases amongB [46, 101, 69, 43, 45, 95] b <;> simp
theorem okN_high (b : UInt8) (h : 128 ≤ b.toNat) : okN b = false := by
  have := otherR_byte b
  rw [otherR_high _ h] at this
  simpa using this.symm

theorem idx_all (s : ByteArray) : ∀ (f pos : Nat), s.size - pos ≤ f → (!decide (0 ≤ idxFuncFrom otherR true s f pos)) = (s.data.toList.drop pos).all okN
  | 0, pos, h => by
    rw [List.drop_eq_nil_of_le (by rw [← Lib.size_eq]; omega)]
    simp [idxFuncFrom]
  | f + 1, pos, h => by
    unfold idxFuncFrom
    by_cases hp : pos < s.size
    · rw [if_pos hp]
      have hlt : pos < s.data.toList.length := by rw [← Lib.size_eq]; exact hp
      have hd := List.drop_eq_getElem_cons hlt
      obtain ⟨b, hb⟩ : ∃ b, s.data.toList[pos] = b := ⟨_, rfl⟩
      rw [hb] at hd
      rw [hd, List.all_cons, ← Lib.decodeL_drop, hd]
      by_cases hb128 : b.toNat < 128
      · rw [decodeL_ascii b _ hb128]
        simp only
        rw [otherR_byte]
        cases hok : okN b with
        | true =>
          simp only [Bool.not_true, Bool.false_eq_true, if_false, Bool.true_and]
          exact idx_all s f (pos + 1) (by omega)
        | false => simp
      · rw [otherR_high _ (rune_high b _ (by omega)), okN_high b (by omega)]
        simp
    · rw [if_neg hp, List.drop_eq_nil_of_le (by rw [← Lib.size_eq]; omega)]
      simp

theorem trimP_cons (a b : UInt8) (t : List UInt8) : trimPrefix (b :: t) [a] = if b = a then t else b :: t := by
  unfold trimPrefix hasPrefix
  by_cases h : b = a
  · subst h; simp
  · have : ¬ a = b := fun e => h e.symm
    simp [this, h]
theorem trimP_nil (a : UInt8) : trimPrefix [] [a] = [] := by simp [trimPrefix, hasPrefix]
theorem strip2_eq (l : List UInt8) : strip2 l = trimPrefix l [46] := by
  unfold strip2 test2
  cases l with
  | nil => rw [trimP_nil]; rfl
  | cons b t =>
    rw [trimP_cons]
    by_cases h : b = 46
    · simp [h]
    · simp [h]
/-- A text that looks like a number, said as the program says it. -/
theorem tail_eq (l : List UInt8) : tailR l = (!l.isEmpty && (isDigB (l.headD 0) && !(decide (0 ≤ Lib.idxFunc otherR true ⟨l.toArray⟩)))) := by
  unfold tailR Lib.idxFunc
  rw [idx_all ⟨l.toArray⟩ _ 0 (by omega), headD_eq]
  simp
theorem looks_eq (l : List UInt8) : looksR l = numP l := by
  have e1 : ∀ r : List UInt8, hasPrefix r [43, 45] = match r with | b :: c :: _ => b == 43 && c == 45 | _ => false := by
    intro r
    unfold hasPrefix
    match r with
    | [] => rfl
    | [b] => simp [List.isPrefixOf]
    | b :: c :: t =>
      simp only [List.isPrefixOf, Bool.and_true]
      rw [Bool.eq_iff_iff]; simp; intros; constructor <;> (rintro ⟨h1, h2⟩; exact ⟨h1.symm, h2.symm⟩)
  unfold looksR numP
  rw [tail_eq, strip2_eq]
  cases l with
  | nil => rfl
  | cons b t =>
    by_cases hb : b = 43
    · subst hb
      have hs : strip1 (43 :: t) = t := by unfold strip1 test1 amongB; simp
      rw [hs]
      unfold numTail
      rw [trimP_cons, if_pos rfl]
      cases t with
      | nil => rw [trimP_nil, e1, trimP_nil, trimP_nil]; rfl
      | cons c t' =>
        by_cases hc : c = 45
        · subst hc
          rw [e1, trimP_cons, if_neg (by decide)]
          simp [isDigB]
        · have hcb : (c == 45) = false := by simpa using hc
          rw [e1, trimP_cons 45, if_neg hc]
          simp [hcb, Bool.and_assoc]
    · have h43 : (b == 43) = false := by simpa using hb
      have hpre : hasPrefix (b :: t) [43, 45] = false := by
        rw [e1]
        cases t with
        | nil => rfl
        | cons c t' => simp [hb]
      rw [hpre]
      unfold numTail
      rw [trimP_cons, if_neg hb]
      by_cases hm : b = 45
      · subst hm
        have hs : strip1 (45 :: t) = t := by unfold strip1 test1 amongB; simp
        rw [hs, trimP_cons, if_pos rfl]
        simp [Bool.and_assoc]
      · have hs : strip1 (b :: t) = b :: t := by unfold strip1 test1 amongB; simp [hb, hm]
        rw [hs, trimP_cons 45, if_neg hm]
        simp [Bool.and_assoc]
end Go.Proofs.YtccjfoldjbmnfaaDoor
