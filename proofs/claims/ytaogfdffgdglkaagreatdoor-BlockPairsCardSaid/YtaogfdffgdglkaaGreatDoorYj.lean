/- What is proved: a part of the walk of the program and of its plain laws; no condition beside those that each theorem names. -/
import Derived.Test.YtaogfdffgdglkaaGreatDoorYh
import Derived.Test.YtaogfdffgdglkaaGreatDoorYa
namespace Go.Proofs.YtaogfdffgdglkaaGreatDoor
open Go Go.RowKit Go.Lib
set_option linter.unusedSimpArgs false
set_option linter.unusedVariables false
section
def C3 (l : List UInt8) (i : Nat) (bs : List UInt8) : Bool := decide (i < l.length) && Bm bs (l.getD i 0)
def C2 (l : List UInt8) (i : Nat) : Bool := decide (l.length <= i) || C3 l i [32]
def BV (l : List UInt8) (i : Nat) : Bool := C3 l i [35] && (i == 0 || C3 l (i - 1) [32])
def AF (l : List UInt8) (i d : Nat) : Bool := C2 l i || (decide (0 < d) && C3 l i CN)
def G7 (l : List UInt8) (i d : Nat) : Bool := decide (l.length <= i) || (BV l i || ((C3 l i [58] && AF l (i + 1) d) || (decide (0 < d) && C3 l i CN)))
def FI (l : List UInt8) (d : Nat) : Nat -> Nat -> Nat
 | 0, p => p
 | f + 1, p => if G7 l p d then p else FI l d f (p + 1)
def DG (l : List UInt8) (p d : Nat) : Nat := FI l d (l.length - p) p
def Cq (c : UInt8) : Bool := (decide (65 <= c.toNat) && decide (c.toNat <= 90)) || ((decide (97 <= c.toNat) && decide (c.toNat <= 122)) || (Hr c || (c.toNat == 95 || c.toNat == 45)))
def Fo (l : List UInt8) : Bool := l.all Cq && (!l.isEmpty && decide (l.length <= 20))
def FK (l : List UInt8) : List UInt8 := (l.reverse.dropWhile (· == 32)).reverse
inductive TR
 | ok (k : Nat) (t : List UInt8) (tq d : Nat)
 | bad (e : Nat)
deriving Inhabited
def BE (l : List UInt8) (p d : Nat) : TR :=
 if Gh (FK ((l.take (DG l p d)).drop p)) (decide (0 < d)) then .ok 1 (FK ((l.take (DG l p d)).drop p)) (DG l p d) d else .bad 51
def DY (l : List UInt8) (p d : Nat) : TR :=
 if (B6 ⟨l.toArray⟩ p).2.2 = 0 then
  (if AF l (B6 ⟨l.toArray⟩ p).2.1 d || C3 l (B6 ⟨l.toArray⟩ p).2.1 [58] then .ok 2 (B6 ⟨l.toArray⟩ p).1 (B6 ⟨l.toArray⟩ p).2.1 d else .bad 90)
 else .bad (B6 ⟨l.toArray⟩ p).2.2.toNat
def Bd (l : List UInt8) (p : Nat) : List UInt8 := (l.drop (p + 1)).takeWhile Cq
def FW (l : List UInt8) (p d : Nat) : TR :=
 if Fo (Bd l p) && AF l (p + 1 + (Bd l p).length) d then .ok (if C3 l p [42] then 4 else 3) (Bd l p) (p + 1 + (Bd l p).length) d else .bad 90
def DW (l : List UInt8) (p d : Nat) : TR := if C2 l (p + 1) then (if 0 < d then .bad 90 else .ok 5 [] (p + 1) d) else BE l p d
def D0 (l : List UInt8) (p d : Nat) : TR := if AF l (p + 1) d then .ok 6 [] (p + 1) d else BE l p d
def Cx (c : UInt8) (p d : Nat) : TR := if d = 0 then .bad 90 else if c = 44 then .ok 7 [] (p + 1) d else .ok (if c = 93 then 9 else 11) [] (p + 1) (d - 1)
def NH (l : List UInt8) (p d : Nat) (c : UInt8) : TR :=
 if c = 34 \/ c = 39 then DY l p d
 else if c = 38 \/ c = 42 then FW l p d
 else if c = 45 then DW l p d
 else if c = 58 then D0 l p d
 else if c = 91 \/ c = 123 then .ok (if c = 91 then 8 else 10) [] (p + 1) (d + 1)
 else if c = 44 \/ c = 93 \/ c = 125 then Cx c p d
 else BE l p d
def CU (l : List UInt8) (p d : Nat) : TR := NH l p d (l.getD p 0)
inductive TP
 | tok (k : Nat) (t : List UInt8) (p : Nat)
 | bad (e p : Nat)
deriving Inhabited
def BG (l : List UInt8) : Nat -> Nat -> Nat -> List TP
 | 0, _, _ => []
 | f + 1, p, d =>
  if l.length <= p then [] else if C3 l p [32] then BG l f (p + 1) d else if BV l p then [] else
   match CU l p d with
   | .ok k t tq d' => .tok k t p :: BG l f tq d'
   | .bad e => [.bad e p]
def AK (l : List UInt8) (p d : Nat) : List TP := BG l (l.length + 1 - p) p d
structure Tk where
 kind : Nat
 str : List UInt8
 at_ : Nat
deriving DecidableEq
def Gu : List TP -> List Tk -> List Tk × Nat × Nat
 | [], acc => (acc, 0, 0)
 | .tok k t p :: r, acc => Gu r (acc ++ [⟨k, t, p⟩])
 | .bad e p :: _, _ => ([], p, e)
def C0 (l : List UInt8) : List Tk × Nat × Nat :=
 if validD l then (if (AH l).all Aq then Gu (AK l 0 0) [] else ([], 0, 80)) else ([], 0, 40)
theorem OM (l : List UInt8) (d : Nat) : ∀ f p, p <= FI l d f p /\ FI l d f p <= p + f
 | 0, p => by simp [FI]
 | f + 1, p => by
  unfold FI
  split
  ·omega
  ·have := OM l d f (p + 1); omega
theorem T6 {l : List UInt8} {p : Nat} (d : Nat) (h : p <= l.length) : p <= DG l p d /\ DG l p d <= l.length := by
 have := OM l d (l.length - p) p
 unfold DG
 omega
theorem Kz (l : List UInt8) (d : Nat) : ∀ f g p, l.length - p <= f -> l.length - p <= g -> FI l d f p = FI l d g p
 | 0, 0, _, _, _ => rfl
 | 0, g + 1, p, hf, _ => by
  unfold FI
  rw [if_pos (by unfold G7; simp; left; omega)]
 | f + 1, 0, p, _, hg => by
  unfold FI
  rw [if_pos (by unfold G7; simp; left; omega)]
 | f + 1, g + 1, p, hf, hg => by
  unfold FI
  split
  ·rfl
  ·exact Kz l d f g (p + 1) (by omega) (by omega)
theorem SK {l : List UInt8} {p d : Nat} (h : G7 l p d = true) : DG l p d = p := by
 unfold DG
 cases hn : l.length - p with
 | zero => rfl
 | succ n => unfold FI; rw [if_pos h]
theorem Q1 {l : List UInt8} {p d : Nat} (h : G7 l p d = false) : DG l p d = DG l (p + 1) d := by
 have hp : p < l.length := by
  rcases Nat.lt_or_ge p l.length with h1 | h1
  ·exact h1
  ·unfold G7 at h; simp at h; omega
 unfold DG
 obtain ⟨n, hn⟩ : ∃ n, l.length - p = n + 1 := ⟨l.length - p - 1, by omega⟩
 rw [hn]
 show (if G7 l p d = true then p else FI l d n (p + 1)) = _
 rw [h, if_neg (by decide)]
 exact Kz l d _ _ _ (by omega) (by omega)
theorem Qt {l : List UInt8} {p d k tq d' : Nat} {t : List UInt8} (hp : p <= l.length) (h : BE l p d = .ok k t tq d') : k = 1 /\ d' = d /\ tq = DG l p d /\ t = FK ((l.take tq).drop p) /\ Gh t (decide (0 < d)) = true /\ p < tq /\ tq <= l.length := by
 have he := T6 d hp
 unfold BE at h
 split at h
 ·rename_i hm
  injection h with h1 h2 h3 h4
  subst h1 h2 h3 h4
  refine ⟨rfl, rfl, rfl, rfl, hm, ?_, he.2⟩
  rcases Nat.lt_or_ge p (DG l p d) with h1 | h1
  ·exact h1
  ·have h2 : DG l p d = p := by omega
   rw [h2, List.drop_take, Nat.sub_self, List.take_zero] at hm
   cases hm
 ·cases h
def KW (n : Nat) : QP -> QP
 | .sign r tq => .sign r (n + tq)
 | .fin tq => .fin (n + tq)
 | .bad e => .bad e
theorem LE (a b : Nat) (p : QP) : KW a (KW b p) = KW (a + b) p := by
 cases p <;> simp [KW, Nat.add_assoc]
def B1 (l : List UInt8) : Int := if l = [] then 65533 else ((decodeL l).1 : Int)
theorem Ju (s : ByteArray) (i : Nat) : AR s i = B1 (s.data.toList.drop i) := by
 rcases Nat.lt_or_ge i s.size with h | h
 ·rw [Eo s i h, <- Lib.decodeL_drop]
  unfold B1
  rw [if_neg (Dj s i h)]
 ·rw [KC s i h, List.drop_eq_nil_of_le (by rw [<- Lib.size_eq]; exact h)]
  rfl
def EQ (l : List UInt8) (k : Nat) : QP := match Hd l k with
 | some v => .sign v k
 | none => .bad 41
theorem RC (s : ByteArray) (p k : Nat) : El s p k = KW p (EQ (s.data.toList.drop p) k) := by
 unfold El EQ
 cases Hd (s.data.toList.drop p) k <;> rfl
def Lu (l : List UInt8) : QP :=
 if l.length = 0 then .bad 41
 else if BT [34, 92, 47] (B1 l) then .sign (B1 l) 1
 else if B1 l = 48 then .sign 0 1
 else if B1 l = 120 then KW 1 (EQ (l.drop 1) 2)
 else if B1 l = 117 then KW 1 (EQ (l.drop 1) 4)
 else match Cn (B1 l) with
 | some y => .sign y 1
 | none => .bad 41
theorem Nm (s : ByteArray) (i : Nat) : (s.data.toList.drop i).length = s.size - i := by rw [List.length_drop, <- Lib.size_eq]
theorem Vk (s : ByteArray) (p : Nat) : JD s p = KW p (Lu (s.data.toList.drop p)) := by
 unfold JD JF Lu
 rw [Ju, Nm, RC, RC, <- List.drop_drop]
 by_cases h : s.size <= p
 ·have h2 : s.size - p = 0 := by omega
  rw [if_pos h, if_pos h2]; rfl
 ·have h2 : ¬ s.size - p = 0 := by omega
  rw [if_neg h, if_neg h2]
  by_cases h3 : BT [34, 92, 47] (B1 (s.data.toList.drop p)) = true
  ·rw [if_pos h3, if_pos h3]; rfl
  ·rw [if_neg h3, if_neg h3]
   by_cases h4 : B1 (s.data.toList.drop p) = 48
   ·rw [if_pos h4, if_pos h4]; rfl
   ·rw [if_neg h4, if_neg h4]
    by_cases h5 : B1 (s.data.toList.drop p) = 120
    ·rw [if_pos h5, if_pos h5]; rw [LE]
    ·rw [if_neg h5, if_neg h5]
     by_cases h6 : B1 (s.data.toList.drop p) = 117
     ·rw [if_pos h6, if_pos h6]; rw [LE]
     ·rw [if_neg h6, if_neg h6]
      cases Cn (B1 (s.data.toList.drop p)) <;> rfl
def ET (q : Int) (l : List UInt8) : QP :=
 if l.length = 0 then .bad 42
 else if B1 l = q then (if B1 l = 39 /\ B1 (l.drop 1) = 39 /\ 1 < l.length then .sign 39 2 else .fin 1)
 else if B1 l = 92 /\ q = 34 then KW 1 (Lu (l.drop 1))
 else if Ch (B1 l) then .sign (B1 l) (decodeL l).2 else .bad 42
theorem SN (s : ByteArray) (q : Int) (i : Nat) : CP s q i = KW i (ET q (s.data.toList.drop i)) := by
 unfold CP O1 ET
 rw [Ju, Ju, <- Lib.decodeL_drop, Nm, Vk, List.drop_drop]
 by_cases h : s.size <= i
 ·have h2 : s.size - i = 0 := by omega
  rw [if_pos h, if_pos h2]; rfl
 ·have h2 : ¬ s.size - i = 0 := by omega
  rw [if_neg h, if_neg h2]
  by_cases h3 : B1 (s.data.toList.drop i) = q
  ·rw [if_pos h3, if_pos h3]
   by_cases h4 : B1 (s.data.toList.drop i) = 39 /\ B1 (s.data.toList.drop (i + 1)) = 39 /\ i + 1 < s.size
   ·rw [if_pos h4, if_pos ⟨h4.1, h4.2.1, by omega⟩]; rfl
   ·rw [if_neg h4, if_neg (fun h5 => h4 ⟨h5.1, h5.2.1, by omega⟩)]; rfl
  ·rw [if_neg h3, if_neg h3]
   by_cases h4 : B1 (s.data.toList.drop i) = 92 /\ q = 34
   ·rw [if_pos h4, if_pos h4]; rw [LE]
   ·rw [if_neg h4, if_neg h4]
    by_cases h5 : Ch (B1 (s.data.toList.drop i)) = true
    ·rw [if_pos h5, if_pos h5]; rfl
    ·rw [if_neg h5, if_neg h5]; rfl
def BF (q : Int) : Nat -> List UInt8 -> List UInt8 -> Nat -> List UInt8 × Nat × Int
 | 0, _, _, _ => ([], 0, 42)
 | f + 1, l, acc, n => match ET q l with
  | .sign r k => BF q f (l.drop k) (acc ++ encodeRune r) (n + k)
  | .fin k => (acc, n + k, 0)
  | .bad e => ([], 0, e)
theorem RG (s : ByteArray) (q : Int) : ∀ (f i : Nat) (acc : List UInt8), C8 (B8 s q f i) acc = BF q f (s.data.toList.drop i) acc i
 | 0, i, acc => rfl
 | f + 1, i, acc => by
  unfold B8 BF
  rw [SN]
  cases ET q (s.data.toList.drop i) with
  | sign r k =>
   show C8 (B8 s q f (i + k)) (acc ++ encodeRune r) = _
   rw [RG s q f (i + k), <- List.drop_drop]
  | fin k => rfl
  | bad e => rfl
theorem Ht (l : List UInt8) (k : Nat) : (∃ v : Nat, EQ l k = .sign v k) \/ EQ l k = .bad 41 := by
 unfold EQ
 cases Hd l k with
 | some v => exact .inl ⟨v, rfl⟩
 | none => exact .inr rfl
theorem Jn (l : List UInt8) : (∃ r k, Lu l = .sign r k /\ 1 <= k) \/ Lu l = .bad 41 := by
 unfold Lu
 split
 ·exact .inr rfl
 ·split
  ·exact .inl ⟨_, _, rfl, by omega⟩
  ·split
   ·exact .inl ⟨_, _, rfl, by omega⟩
   ·split
    ·rcases Ht (l.drop 1) 2 with ⟨v, h⟩ | h
     ·rw [h]; exact .inl ⟨_, _, rfl, by omega⟩
     ·rw [h]; exact .inr rfl
    ·split
     ·rcases Ht (l.drop 1) 4 with ⟨v, h⟩ | h
      ·rw [h]; exact .inl ⟨_, _, rfl, by omega⟩
      ·rw [h]; exact .inr rfl
     ·cases Cn (B1 l) with
      | some y => exact .inl ⟨_, _, rfl, by omega⟩
      | none => exact .inr rfl
theorem E8 (q : Int) (l : List UInt8) : (l ≠ [] /\ ((∃ r k, ET q l = .sign r k /\ 1 <= k) \/ ET q l = .fin 1 \/ ET q l = .bad 41)) \/ ET q l = .bad 42 := by
 unfold ET
 split
 ·exact .inr rfl
 ·rename_i hne
  have hne : l ≠ [] := fun e => hne (by rw [e]; rfl)
  split
  ·split
   ·exact .inl ⟨hne, .inl ⟨_, _, rfl, by omega⟩⟩
   ·exact .inl ⟨hne, .inr (.inl rfl)⟩
  ·split
   ·rcases Jn (l.drop 1) with ⟨r, k, h, hk⟩ | h
    ·rw [h]; exact .inl ⟨hne, .inl ⟨_, _, rfl, by omega⟩⟩
    ·rw [h]; exact .inl ⟨hne, .inr (.inr rfl)⟩
   ·split
    ·exact .inl ⟨hne, .inl ⟨_, _, rfl, decodeL_width l⟩⟩
    ·exact .inr rfl
theorem Ii (q : Int) (m : Nat) : ∀ (f : Nat) (l acc : List UInt8) (n : Nat), BF q f l acc (m + n) = ((BF q f l acc n).1, if (BF q f l acc n).2.2 = 0 then m + (BF q f l acc n).2.1 else (BF q f l acc n).2.1, (BF q f l acc n).2.2)
 | 0, l, acc, n => by simp [BF]
 | f + 1, l, acc, n => by
  unfold BF
  rcases E8 q l with ⟨hne, ⟨r, k, h, hk⟩ | h | h⟩ | h
  ·rw [h]
   have := Ii q m f (l.drop k) (acc ++ encodeRune r) (n + k)
   rw [<- Nat.add_assoc] at this
   exact this
  ·rw [h]; simp [Nat.add_assoc]
  ·rw [h]; simp
  ·rw [h]; simp
theorem ND (l m : List UInt8) (hne : l ≠ []) (hv : validD l = true) : decodeL (l ++ m) = decodeL l := by
 have hb : ¬ ((decodeL l).1 = 65533 /\ (decodeL l).2 = 1) := fun h => by rw [validD_step l hne, if_pos h] at hv; cases hv
 have he := encode_decode l hne hb
 have hvr := Ee l hne hb
 have hsg : M5 ((decodeL l).1 : Int) = true := by
  unfold Lib.validRune at hvr
  rw [decide_eq_true_eq] at hvr
  rw [GX]; omega
 have h1 := Iu ((decodeL l).1 : Int) hsg (l.drop (decodeL l).2 ++ m)
 rw [he, <- List.append_assoc, List.take_append_drop, List.length_take, Nat.min_eq_left (decodeL_le l hne)] at h1
 rw [h1]
 rfl
theorem Gc (l : List UInt8) (hne : l ≠ []) (hv : validD l = true) : validD (l.drop (decodeL l).2) = true := by
 rw [validD_step l hne] at hv
 split at hv
 ·cases hv
 ·exact hv
theorem JO : ∀ (n : Nat) (l m : List UInt8), l.length <= n -> validD l = true -> validD (l ++ m) = validD m
 | n, [], m, _, _ => rfl
 | 0, c :: t, m, h, _ => by simp at h
 | n + 1, c :: t, m, h, hv => by
  have hne : c :: t ≠ [] := by simp
  have hb : ¬ ((decodeL (c :: t)).1 = 65533 /\ (decodeL (c :: t)).2 = 1) := fun h => by rw [validD_step _ hne, if_pos h] at hv; cases hv
  have hw := decodeL_width (c :: t)
  rw [validD_step (c :: t ++ m) (by simp), ND _ m hne hv, if_neg hb, List.drop_append_of_le_length (decodeL_le _ hne)]
  exact JO n _ m (by rw [List.length_drop]; simp at h |-; omega) (Gc _ hne hv)
theorem EJ (c : UInt8) (m : List UInt8) (h : c.toNat < 128) : B1 (c :: m) = (c.toNat : Int) := by
 unfold B1
 rw [if_neg (by simp), decodeL_ascii c m h]
theorem BM (l : List UInt8) : (⟨l.toArray⟩ : ByteArray).data.toList = l := by simp
theorem CB (l : List UInt8) : (⟨l.toArray⟩ : ByteArray).size = l.length := by rw [Lib.size_eq, BM]
theorem Oo {l : List UInt8} (hne : l ≠ []) (hv : validD l = true) (hb : B1 l < 128) : ∃ c t, l = c :: t /\ c.toNat < 128 /\ B1 l = (c.toNat : Int) /\ validD t = true := by
 obtain ⟨c, t, rfl⟩ : ∃ c t, l = c :: t := by cases l with | nil => exact absurd rfl hne | cons c t => exact ⟨c, t, rfl⟩
 have hlt : c.toNat < 128 := by
  rcases Nat.lt_or_ge c.toNat 128 with h | h
  ·exact h
  ·have := Hj c t h
   unfold B1 at hb; rw [if_neg (by simp)] at hb; omega
 refine ⟨c, t, rfl, hlt, EJ c t hlt, ?_⟩
 rw [validD_cons c t hlt] at hv; exact hv
theorem Q4 {q : Int} {l : List UInt8} {r : Int} {k : Nat} (hv : validD l = true) (h : ET q l = .sign r k) : l ≠ [] /\ 1 <= k /\ k <= l.length /\ validD (l.drop k) = true /\ Lib.validRune r = true := by
 have h0 : CP ⟨l.toArray⟩ q 0 = .sign r k := by rw [SN, BM, List.drop_zero, h]; simp [KW]
 obtain ⟨h1, h2, h3, h4, h5⟩ := Eu (by omega) (fun _ => by rw [BM, List.drop_zero]; exact hv) h0
 rw [CB] at h1 h3 h4
 refine ⟨fun e => by rw [e] at h1; simp at h1, by omega, h3, ?_, h5⟩
 rcases Nat.lt_or_ge k l.length with h6 | h6
 ·have := h4 h6; rwa [BM] at this
 ·rw [List.drop_eq_nil_of_le h6]; rfl
theorem Mo (q : Int) (hq128 : q < 128) : ∀ (f : Nat) (l acc : List UInt8) (n : Nat), validD l = true -> (BF q f l acc n).2.2 = 0 -> n < (BF q f l acc n).2.1 /\ (BF q f l acc n).2.1 <= n + l.length /\ validD (l.drop ((BF q f l acc n).2.1 - n)) = true
 | 0, l, acc, n, _, h => by simp [BF] at h
 | f + 1, l, acc, n, hv, h => by
  unfold BF at h |-
  cases ho : ET q l with
  | sign r k =>
   rw [ho] at h
   obtain ⟨_, h2, h3, h4, _⟩ := Q4 hv ho
   have := Mo q hq128 f (l.drop k) _ _ h4 h
   rw [List.length_drop, List.drop_drop] at this
   dsimp only
   refine ⟨by omega, by omega, ?_⟩
   rw [show (BF q f (List.drop k l) (acc ++ encodeRune r) (n + k)).2.1 - n = k + ((BF q f (List.drop k l) (acc ++ encodeRune r) (n + k)).2.1 - (n + k)) by omega]
   exact this.2.2
  | fin k =>
   rw [ho] at h
   have hlen : l ≠ [] /\ k = 1 := by
    rcases E8 q l with ⟨hne, ⟨r, k, h, hk⟩ | h | h⟩ | h <;> rw [ho] at h <;> first | (injection h with h; exact ⟨hne, h⟩) | cases h
   have hl : 0 < l.length := List.length_pos_iff.2 hlen.1
   dsimp only
   refine ⟨by omega, by omega, ?_⟩
   rw [show n + k - n = 1 by omega]
   have hq : B1 l = q := by
    unfold ET at ho
    split at ho
    ·cases ho
    ·split at ho
     ·assumption
     ·split at ho
      ·rcases Jn (l.drop 1) with ⟨r, k, h, hk⟩ | h <;> rw [h] at ho <;> cases ho
      ·split at ho <;> cases ho
   obtain ⟨c, t, rfl, _, _, hvt⟩ := Oo hlen.1 hv (by omega)
   exact hvt
  | bad e =>
   rw [ho] at h
   simp at h
   rcases E8 q l with ⟨hne, ⟨r, k, h2, hk⟩ | h2 | h2⟩ | h2 <;> rw [ho] at h2 <;> first | (injection h2 with h2; omega) | cases h2
def EA (l : List UInt8) (p : Nat) (q : Int) : Prop := p < l.length /\ ((l.getD p 0 = 34 /\ q = 34) \/ (l.getD p 0 = 39 /\ q = 39))
theorem FC {l : List UInt8} {p : Nat} (hp : p < l.length) (h : l.getD p 0 = 34 \/ l.getD p 0 = 39) : ∃ q, EA l p q /\ q < 128 := by
 rcases h with h | h
 ·exact ⟨34, ⟨hp, .inl ⟨h, rfl⟩⟩, by decide⟩
 ·exact ⟨39, ⟨hp, .inr ⟨h, rfl⟩⟩, by decide⟩
theorem TL (l : List UInt8) (p : Nat) (h : p < (⟨l.toArray⟩ : ByteArray).size) : (⟨l.toArray⟩ : ByteArray)[p]'h = l.getD p 0 := by
 have := Cw ⟨l.toArray⟩ p h
 rw [BM] at this
 exact this.symm
theorem P9 {l : List UInt8} {p : Nat} {q : Int} (h : EA l p q) : D8 ⟨l.toArray⟩ p = some q := by
 have hlt : p < (⟨l.toArray⟩ : ByteArray).size := by rw [CB]; exact h.1
 unfold D8
 rw [if_neg (by omega), dif_pos (by simpa using hlt)]
 have hg := TL l p hlt
 have hg' : (⟨l.toArray⟩ : ByteArray)[((p : Nat) : Int).toNat]'(by simpa using hlt) = l.getD p 0 := by simpa using hg
 rw [hg']
 rcases h.2 with ⟨h1, rfl⟩ | ⟨h1, rfl⟩ <;> rw [h1] <;> rfl
theorem Gz {l : List UInt8} {p : Nat} {q : Int} (h : EA l p q) (hv : validD l = true) : B6 ⟨l.toArray⟩ p = BF q (l.length + 1 - (p + 1)) (l.drop (p + 1)) [] (p + 1) := by
 unfold B6
 rw [BM, hv, if_pos rfl, P9 h]
 show C8 (AT ⟨l.toArray⟩ q (((p : Nat) : Int).toNat + 1)) [] = _
 rw [show ((p : Nat) : Int).toNat = p by omega]
 unfold AT
 rw [RG, BM, CB]
theorem Mp {l : List UInt8} {p : Nat} {q : Int} (h : EA l p q) (hv : validD l = true) : validD (l.drop (p + 1)) = true := by
 refine F2 _ l p Nr hv h.1 ?_
 have : l[p]'h.1 = l.getD p 0 := by simp [List.getD, List.getElem?_eq_getElem h.1]
 rw [this]
 rcases h.2 with ⟨h1, _⟩ | ⟨h1, _⟩ <;> rw [h1] <;> decide
theorem DM (b l : List UInt8) (p : Nat) : (b ++ l).getD (b.length + p) 0 = l.getD p 0 := by
 rw [List.getD, List.getElem?_append_right (by omega), show b.length + p - b.length = p by omega]; rfl
theorem K6 (l m : List UInt8) (p : Nat) (h : p < l.length) : (l ++ m).getD p 0 = l.getD p 0 := by
 rw [List.getD, List.getElem?_append_left h]; rfl
theorem LY {b l : List UInt8} {p : Nat} {q : Int} (h : EA l p q) (hb : validD b = true) (hv : validD l = true) :
  B6 ⟨(b ++ l).toArray⟩ ((b.length + p : Nat) : Int) = ((B6 ⟨l.toArray⟩ p).1, if (B6 ⟨l.toArray⟩ p).2.2 = 0 then b.length + (B6 ⟨l.toArray⟩ p).2.1 else (B6 ⟨l.toArray⟩ p).2.1, (B6 ⟨l.toArray⟩ p).2.2) := by
 have h2 : EA (b ++ l) (b.length + p) q := ⟨by rw [List.length_append]; have := h.1; omega, by rw [DM]; exact h.2⟩
 rw [Gz h2 (by rw [JO _ b l Nr hb]; exact hv), Gz h hv]
 rw [show b.length + p + 1 = b.length + (p + 1) by omega, Ii, <- List.drop_drop, List.drop_left]
 rw [show (b ++ l).length + 1 - (b.length + (p + 1)) = l.length + 1 - (p + 1) by rw [List.length_append]; omega]
theorem LZ {l : List UInt8} {p : Nat} {q : Int} (h : EA l p q) (hq : q < 128) (hv : validD l = true) (he : (B6 ⟨l.toArray⟩ p).2.2 = 0) : p + 1 < (B6 ⟨l.toArray⟩ p).2.1 /\ (B6 ⟨l.toArray⟩ p).2.1 <= l.length := by
 rw [Gz h hv] at he |-
 have := Mo q hq _ (l.drop (p + 1)) [] (p + 1) (Mp h hv) he
 rw [List.length_drop] at this
 have h1 := h.1
 omega
theorem KP (q : Int) : ∀ (f : Nat) (l acc : List UInt8) (n : Nat), (BF q f l acc n).2.2 = 0 \/ (BF q f l acc n).2.2 = 41 \/ (BF q f l acc n).2.2 = 42
 | 0, l, acc, n => .inr (.inr rfl)
 | f + 1, l, acc, n => by
  unfold BF
  rcases E8 q l with ⟨hne, ⟨r, k, h, hk⟩ | h | h⟩ | h
  ·rw [h]; exact KP q f _ _ _
  ·rw [h]; exact .inl rfl
  ·rw [h]; exact .inr (.inl rfl)
  ·rw [h]; exact .inr (.inr rfl)
theorem JU {l : List UInt8} {p : Nat} {q : Int} (h : EA l p q) (hv : validD l = true) : (B6 ⟨l.toArray⟩ p).2.2 = 0 \/ (B6 ⟨l.toArray⟩ p).2.2 = 41 \/ (B6 ⟨l.toArray⟩ p).2.2 = 42 := by
 rw [Gz h hv]; exact KP q _ _ _ _
end
end Go.Proofs.YtaogfdffgdglkaaGreatDoor
