/- What is proved: the reference resolves, and reads, as the program does. -/
import Derived.Test.YtccjfoldjbmnfaaDoorPd
namespace Go.Proofs.YtccjfoldjbmnfaaDoor
open Go Go.RowKit Go.Lib
set_option linter.unusedSimpArgs false
set_option linter.unusedVariables false

theorem of_list {s : ByteArray} {l : List UInt8} (h : s.data.toList = l) : s = ⟨l.toArray⟩ := by subst h; rfl
theorem ne_list {s : ByteArray} {l : List UInt8} (h : ¬ s.data.toList = l) : (s == (⟨l.toArray⟩ : ByteArray)) = false := by
  show (s.data == l.toArray) = false
  rw [← Bool.not_eq_true, beq_iff_eq]
  intro e
  exact h (by rw [e])
theorem ne_beq {l m : List UInt8} (h : ¬ l = m) : (l == m) = false := by simpa using h
/-- What the program says of a text that may stand plain. -/
theorem word_eq (s : ByteArray) : (wordR s.data.toList).getD (restR s) = scalarP (valueV s) := by
  by_cases h0 : s.data.toList = []
  · rw [of_list h0]; kernel_rfl
  by_cases h1 : s.data.toList = [110, 117, 108, 108]
  · rw [of_list h1]; kernel_rfl
  by_cases h2 : s.data.toList = [126]
  · rw [of_list h2]; kernel_rfl
  by_cases h3 : s.data.toList = [116, 114, 117, 101]
  · rw [of_list h3]; kernel_rfl
  by_cases h4 : s.data.toList = [102, 97, 108, 115, 101]
  · rw [of_list h4]; kernel_rfl
  by_cases h5 : s.data.toList = [46, 105, 110, 102]
  · rw [of_list h5]; kernel_rfl
  by_cases h6 : s.data.toList = [43, 46, 105, 110, 102]
  · rw [of_list h6]; kernel_rfl
  by_cases h7 : s.data.toList = [45, 46, 105, 110, 102]
  · rw [of_list h7]; kernel_rfl
  by_cases h8 : s.data.toList = [46, 110, 97, 110]
  · rw [of_list h8]; kernel_rfl
  have hw : wordR s.data.toList = none := by
    unfold wordR
    have he : s.data.toList.isEmpty = false := by rw [← Bool.not_eq_true, List.isEmpty_iff]; exact h0
    rw [he, ne_beq h1, ne_beq h2, ne_beq h3, ne_beq h4, ne_beq h5, ne_beq h6, ne_beq h7, ne_beq h8]
    rfl
  have ha : assoc s wordsL = none := by
    unfold wordsL
    simp only [assoc]
    rw [show (s == _) = false from ne_list h0, show (s == _) = false from ne_list h1, show (s == _) = false from ne_list h2, show (s == _) = false from ne_list h3, show (s == _) = false from ne_list h4, show (s == _) = false from ne_list h5, show (s == _) = false from ne_list h6, show (s == _) = false from ne_list h7, show (s == _) = false from ne_list h8]
    rfl
  rw [hw]
  unfold valueV
  rw [ha]
  simp only [Option.getD_none]
  unfold restR
  rw [looks_eq]
  cases hn : numP s.data.toList with
  | false => rfl
  | true =>
    simp only [Bool.not_true, Bool.false_eq_true, if_false, if_true]
    rw [numV_eq]
    obtain ⟨⟨n, ok⟩, hx⟩ : ∃ x, numR s.data.toList = x := ⟨_, rfl⟩
    rw [hx]
    cases ok <;> rfl
theorem resolve_eq (s : ByteArray) : resolveR s = resolveP s := by
  unfold resolveR resolveP
  rw [mayR_eq, word_eq]
theorem read_eq (s : ByteArray) (flow : Bool) : readR s flow = readP s flow := by
  unfold readR readP
  rw [mayR_eq, resolve_eq]
theorem resolve_may (s : ByteArray) (h : mayP s.data.toList false = true) : resolveP s = (wordR s.data.toList).getD (restR s) := by
  rw [word_eq]
  unfold resolveP
  rw [h]; simp

/-! ### values of scalars -/
theorem word_right (l : List UInt8) (p : Sc × Int) (h : wordR l = some p) : rightP p.1 = true ∧ (p.2 = 0 ∨ p.1 = sc0) ∧ p.1.kind ≠ 3 ∧ l ≠ [] → True := fun _ => trivial
end Go.Proofs.YtccjfoldjbmnfaaDoor
