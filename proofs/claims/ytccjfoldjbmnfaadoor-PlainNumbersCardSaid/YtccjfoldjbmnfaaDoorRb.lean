/- What is proved: the reference's way to read one sign is the model's own. -/
import Derived.Test.YtccjfoldjbmnfaaDoorRa
namespace Go.Proofs.YtccjfoldjbmnfaaDoor
open Go Go.RowKit Go.Lib
set_option linter.unusedSimpArgs false

theorem b8 (z : Int) (x : UInt8) (h0 : 0 ≤ z) (h1 : z < 256) (h : z.toNat.toUInt8 = x) : (x.toNat : Int) = z := by
  subst h
  simp
  omega
theorem signP_iff (v : Int) : signP v = true ↔ 0 ≤ v ∧ v ≤ 1114111 ∧ (v < 55296 ∨ 57343 < v) := by
  unfold signP; simp [and_assoc]

/-- What is encoded is decoded. -/
theorem dec_enc (v : Int) (hv : signP v = true) (t : List UInt8) : decodeL (encodeRune v ++ t) = (v.toNat, (encodeRune v).length) := by
  obtain ⟨h0, h1, h2⟩ := (signP_iff v).1 hv
  rw [decodeL_N]
  unfold encodeRune
  by_cases c1 : v < 128
  · rw [encodeRuneZ_one (by omega) (by omega)]
    simp only [List.map_cons, List.map_nil, List.cons_append, List.nil_append, List.length_cons, List.getD_cons_zero, List.getD_cons_succ, List.length_nil]
    have e0 := b8 v _ (by omega) (by omega) rfl
    generalize v.toNat.toUInt8 = x0 at *
    unfold decodeN
    rw [if_pos (by omega)]
    congr 1; omega
  by_cases c2 : v < 2048
  · rw [encodeRuneZ_two (by omega) (by omega)]
    simp only [List.map_cons, List.map_nil, List.cons_append, List.nil_append, List.length_cons, List.getD_cons_zero, List.getD_cons_succ, List.length_nil]
    have e0 := b8 (192 + v / 64) _ (by omega) (by omega) rfl
    have e1 := b8 (128 + v % 64) _ (by omega) (by omega) rfl
    generalize (192 + v / 64).toNat.toUInt8 = x0 at *
    generalize (128 + v % 64).toNat.toUInt8 = x1 at *
    unfold decodeN
    rw [if_neg (by omega), if_pos (by omega), if_pos (by omega)]
    congr 1; omega
  by_cases c3 : v < 65536
  · rw [encodeRuneZ_three (by omega)]
    simp only [List.map_cons, List.map_nil, List.cons_append, List.nil_append, List.length_cons, List.getD_cons_zero, List.getD_cons_succ, List.length_nil]
    have e0 := b8 (224 + v / 4096) _ (by omega) (by omega) rfl
    have e1 := b8 (128 + v / 64 % 64) _ (by omega) (by omega) rfl
    have e2 := b8 (128 + v % 64) _ (by omega) (by omega) rfl
    generalize (224 + v / 4096).toNat.toUInt8 = x0 at *
    generalize (128 + v / 64 % 64).toNat.toUInt8 = x1 at *
    generalize (128 + v % 64).toNat.toUInt8 = x2 at *
    unfold decodeN
    rw [if_neg (by omega), if_neg (by omega), if_pos (by omega), if_pos (by omega)]
    congr 1; omega
  · rw [encodeRuneZ_four (by omega) (by omega)]
    simp only [List.map_cons, List.map_nil, List.cons_append, List.nil_append, List.length_cons, List.getD_cons_zero, List.getD_cons_succ, List.length_nil]
    have e0 := b8 (240 + v / 262144) _ (by omega) (by omega) rfl
    have e1 := b8 (128 + v / 4096 % 64) _ (by omega) (by omega) rfl
    have e2 := b8 (128 + v / 64 % 64) _ (by omega) (by omega) rfl
    have e3 := b8 (128 + v % 64) _ (by omega) (by omega) rfl
    generalize (240 + v / 262144).toNat.toUInt8 = x0 at *
    generalize (128 + v / 4096 % 64).toNat.toUInt8 = x1 at *
    generalize (128 + v / 64 % 64).toNat.toUInt8 = x2 at *
    generalize (128 + v % 64).toNat.toUInt8 = x3 at *
    unfold decodeN
    rw [if_neg (by omega), if_neg (by omega), if_neg (by omega), if_pos (by omega), if_pos (by omega)]
    congr 1; omega
theorem enc_len3 (v : Int) (h : v.toNat = 65533) : (encodeRune v).length = 3 := by
  have : v = 65533 := by omega
  subst this; decide

theorem oneK_dec (l : List UInt8) (n0 : Int) (k : Nat) (h : decodeL l = (65533, 1)) : oneK l n0 k = (0, 0) := by
  unfold oneK
  by_cases h1 : l.length < k
  · rw [if_pos h1]
  rw [if_neg h1]
  generalize numAt l n0 (k - 1) = v
  by_cases h2 : signP v = true
  · by_cases h3 : encodeRune v = l.take k
    · have := dec_enc v h2 (l.drop k)
      rw [h3, List.take_append_drop, h, ← h3] at this
      have e1 := congrArg Prod.fst this
      have e2 := congrArg Prod.snd this
      have := enc_len3 v e1.symm
      simp only at e2
      omega
    · simp [h2, h3]
  · simp [h2]

theorem oneP_decode (l : List UInt8) (hne : l ≠ []) : oneP l = if (decodeL l).1 = 65533 ∧ (decodeL l).2 = 1 then (0, 0) else (((decodeL l).1 : Int), ((decodeL l).2 : Int)) := by
  by_cases hbad : (decodeL l).1 = 65533 ∧ (decodeL l).2 = 1
  · rw [if_pos hbad]
    unfold oneP
    exact oneK_dec _ _ _ (Prod.ext hbad.1 hbad.2)
  · rw [if_neg hbad]
    have henc := encode_decode l hne hbad
    have hle := decodeL_le l hne
    have hl : 0 < l.length := List.length_pos_iff.2 hne
    rw [decodeL_N] at hbad henc hle ⊢
    have k0 := (l.getD 0 0).toNat_lt
    have k1 := (l.getD 1 0).toNat_lt
    have k2 := (l.getD 2 0).toNat_lt
    have k3 := (l.getD 3 0).toNat_lt
    have fin : ∀ (n0 : Int) (k r : Nat), leadP (l.getD 0 0).toNat = (n0, k) → numAt l n0 (k - 1) = (r : Int) → k ≤ l.length → signP (r : Int) = true → encodeRune (r : Int) = l.take k → oneP l = ((r : Int), (k : Int)) := by
      intro n0 k r h1 h2 h3 h4 h5
      rw [oneP_of rfl h1]
      unfold oneK
      rw [if_neg (by omega), h2, h4, h5]
      simp
    rcases decodeN_shape l.length (l.getD 0 0).toNat (l.getD 1 0).toNat (l.getD 2 0).toNat (l.getD 3 0).toNat with ⟨c, e⟩ | ⟨c1, c2, c3, cv, e⟩ | ⟨c1, c2, c3, c4, cv, cs, e⟩ | ⟨c1, c2, c3, c4, c5, cv, cw, e⟩ | e
    · rw [e] at henc hle ⊢
      exact fin (((l.getD 0 0).toNat : Nat) : Int) 1 _ (by unfold leadP; rw [if_neg (by omega), if_neg (by omega), if_neg (by omega)]) rfl hle ((signP_iff _).2 (by simp only; omega)) henc
    · rw [e] at henc hle ⊢
      exact fin (((l.getD 0 0).toNat : Int) - 192) 2 _ (by unfold leadP; rw [if_neg (by omega), if_neg (by omega), if_pos (by omega)]) (by simp only [numAt, Nat.zero_add, Nat.reduceAdd, Nat.reduceSub]; omega) hle ((signP_iff _).2 (by simp only; omega)) henc
    · rw [e] at henc hle ⊢
      exact fin (((l.getD 0 0).toNat : Int) - 224) 3 _ (by unfold leadP; rw [if_neg (by omega), if_pos (by omega)]) (by simp only [numAt, Nat.zero_add, Nat.reduceAdd, Nat.reduceSub]; omega) hle ((signP_iff _).2 (by simp only; omega)) henc
    · rw [e] at henc hle ⊢
      exact fin (((l.getD 0 0).toNat : Int) - 240) 4 _ (by unfold leadP; rw [if_pos (by omega)]) (by simp only [numAt, Nat.zero_add, Nat.reduceAdd, Nat.reduceSub]; omega) hle ((signP_iff _).2 (by simp only; omega)) henc
    · rw [e] at hbad
      exact absurd ⟨rfl, rfl⟩ hbad
end Go.Proofs.YtccjfoldjbmnfaaDoor
