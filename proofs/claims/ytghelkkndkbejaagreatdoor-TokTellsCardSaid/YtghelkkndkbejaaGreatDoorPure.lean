/- What is proved: plain facts on runes of byte lists; no program stands in it. -/
import Derived.Lib.ValidLaws
import Derived.Lib.TrimByte
import Derived.Lib.Bytealg
import Derived.Shelf.GgClosure.StringsIndexFunc
import Derived.Lib.AtoiAll
import Derived.Lib.Itoa
namespace Go.Proofs.YtghelkkndkbejaaGreatDoor
open Go Go.Lib

/-- The runes of a text, as the model decodes it; a byte that is no part of one is 65533. -/
def runesF : Nat → List UInt8 → List Nat
  | 0, _ => []
  | n + 1, l => if l = [] then [] else (decodeL l).1 :: runesF n (l.drop (decodeL l).2)
def runes (l : List UInt8) : List Nat := runesF l.length l

theorem runesF_nil : ∀ n, runesF n [] = []
  | 0 => rfl
  | _ + 1 => by simp [runesF]
theorem runesF_fuel : ∀ (n m : Nat) (l : List UInt8), l.length ≤ n → l.length ≤ m → runesF n l = runesF m l
  | 0, m, l, hn, _ => by
    have : l = [] := List.eq_nil_of_length_eq_zero (by omega)
    subst this; rw [runesF_nil, runesF_nil]
  | n + 1, 0, l, _, hm => by
    have : l = [] := List.eq_nil_of_length_eq_zero (by omega)
    subst this; rw [runesF_nil, runesF_nil]
  | n + 1, m + 1, l, hn, hm => by
    unfold runesF
    by_cases hne : l = []
    · simp [hne]
    · have hw := decodeL_width l
      have hl : 0 < l.length := List.length_pos_iff.2 hne
      rw [if_neg hne, if_neg hne, runesF_fuel n m (l.drop (decodeL l).2) (by rw [List.length_drop]; omega) (by rw [List.length_drop]; omega)]
theorem runes_nil : runes [] = [] := rfl
theorem runes_step (l : List UInt8) (hne : l ≠ []) : runes l = (decodeL l).1 :: runes (l.drop (decodeL l).2) := by
  have hl : 0 < l.length := List.length_pos_iff.2 hne
  have hw := decodeL_width l
  obtain ⟨n, hn⟩ : ∃ n, l.length = n + 1 := ⟨l.length - 1, by omega⟩
  unfold runes
  rw [hn]
  show (if l = [] then [] else _) = _
  rw [if_neg hne, runesF_fuel n (l.drop (decodeL l).2).length _ (by rw [List.length_drop]; omega) (Nat.le_refl _)]

/-- Is a number among some? -/
def memB (zs : List Int) (r : Int) : Bool := zs.contains r
theorem memB_succ {zs : List Int} {k : Nat} {r : Int} (h : k < zs.length) : memB (zs.take (k + 1)) r = (memB (zs.take k) r || r == zs[k]) := by
  unfold memB
  rw [Bool.eq_iff_iff, List.contains_iff_mem, List.take_succ_eq_append_getElem h, List.mem_append, List.mem_singleton, Bool.or_eq_true, List.contains_iff_mem, beq_iff_eq]
theorem memB_hit {zs : List Int} {k : Nat} {r : Int} (h : k < zs.length) (hx : (r == zs[k]) = true) : memB zs r = true := by
  unfold memB
  rw [eq_of_beq hx]
  simp

theorem memB_nul {nx : Nat} {b : Bool} (h : memB [0, 32] (nx : Int) = b) : (nx == 0 || nx == 32) = b := by
  rw [← h]
  unfold memB
  rw [Bool.eq_iff_iff]
  simp
  omega

/-- Each rune, with the one ahead of it and the one behind. -/
def pairsGo : Nat → List Nat → List (Nat × Nat × Nat)
  | _, [] => []
  | last, [r] => [(r, last, 0)]
  | last, r :: q :: rest => (r, last, q) :: pairsGo r (q :: rest)

theorem runesF_le : ∀ (n : Nat) (l : List UInt8), ∀ r ∈ runesF n l, r ≤ 1114111
  | 0, _, _, h => by simp [runesF] at h
  | n + 1, l, r, h => by
    unfold runesF at h
    split at h
    · simp at h
    · rcases List.mem_cons.1 h with rfl | h
      · exact decodeL_rune l
      · exact runesF_le n _ r h
theorem pairsGo_mem : ∀ (last : Nat) (rs : List Nat) (x : Nat × Nat × Nat), x ∈ pairsGo last rs → x.1 ∈ rs
  | _, [], _, h => by simp [pairsGo] at h
  | last, [r], x, h => by simp [pairsGo] at h; simp [h]
  | last, r :: q :: rest, x, h => by
    rcases List.mem_cons.1 h with rfl | h
    · simp
    · exact List.mem_cons_of_mem _ (pairsGo_mem r (q :: rest) x h)
theorem pairs_rune {l : List UInt8} {pre : List (Nat × Nat × Nat)} {r la nx : Nat} (h : pre ++ [(r, la, nx)] <+: pairsGo 0 (runes l)) : r ≤ 1114111 :=
  runesF_le _ l r (pairsGo_mem 0 (runes l) (r, la, nx) (h.subset (by simp)))

/-- May a rune stand where it stands? -/
def badAt (flow : Bool) (x : Nat × Nat × Nat) : Bool :=
  decide (x.1 < 32) || x.1 == 127 || (flow && (x.1 == 44 || x.1 == 91 || x.1 == 93 || x.1 == 123 || x.1 == 125)) || (x.1 == 58 && (x.2.2 == 0 || x.2.2 == 32)) || (x.1 == 35 && x.2.1 == 32)
def okAll (flow : Bool) (xs : List (Nat × Nat × Nat)) : Bool := xs.all fun x => !badAt flow x
def longOK (l : List UInt8) (flow : Bool) : Bool := okAll flow (pairsGo 0 (runes l))
theorem okAll_snoc (flow : Bool) (xs : List (Nat × Nat × Nat)) (x : Nat × Nat × Nat) : okAll flow (xs ++ [x]) = (okAll flow xs && !badAt flow x) := by simp [okAll]
theorem okAll_stop {flow : Bool} {xs ys : List (Nat × Nat × Nat)} (h : xs <+: ys) (hx : okAll flow xs = false) : okAll flow ys = false := by
  obtain ⟨zs, rfl⟩ := h
  unfold okAll at *
  rw [List.all_append, hx]; rfl

/-- The bytes with which no plain text begins. -/
def barredL : List UInt8 := [44, 91, 93, 123, 125, 35, 38, 42, 33, 124, 62, 39, 34, 37, 64, 96]
def begunOK (l : List UInt8) : Bool :=
  (Lib.trimB l 32 == l) && !(decide (0 ≤ Lib.indexByte barredL (l.headD 0))) && (!(memB [45, 63, 58] (l.headD 0).toNat) || (!l.tail.isEmpty && !(l.tail.headD 0 == 32)))
def mayP (l : List UInt8) (flow : Bool) : Bool := !l.isEmpty && validD l && begunOK l && longOK l flow

/-- Is a rune none that a number may have behind its first digit? -/
def otherR (r : Nat) : Bool := !(decide (48 ≤ r) && decide (r ≤ 57)) && !(memB [46, 101, 69, 43, 45, 95] r)
def isDigB (c : UInt8) : Bool := decide (48 ≤ c.toNat) && decide (c.toNat ≤ 57)
/-- What stands behind a sign and a dot. -/
def numTail (l : List UInt8) : List UInt8 := Lib.trimPrefix (Lib.trimPrefix (Lib.trimPrefix l [43]) [45]) [46]
def numP (l : List UInt8) : Bool :=
  !(Lib.hasPrefix l [43, 45]) && (!(numTail l).isEmpty && isDigB ((numTail l).headD 0) && !(decide (0 ≤ Lib.idxFunc otherR true ⟨(numTail l).toArray⟩)))

theorem atoiAll_bd {l : List UInt8} {v : Int} (h : Lib.atoiAll l = .ok v) : -9223372036854775808 ≤ v ∧ v ≤ 9223372036854775807 := by
  unfold Lib.atoiAll at h
  split at h
  · cases h
  · simp only [] at h
    split at h
    · cases h
    · cases h
    · split at h
      · cases h
      · split at h
        · cases h
        · injection h with h
          subst h
          split <;> omega
end Go.Proofs.YtghelkkndkbejaaGreatDoor
