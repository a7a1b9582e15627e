/- What is proved: a part of the walk of the program and of its plain laws; no condition beside those that each theorem names. -/
import Derived.Test.YtaogfdffgdglkaaGreatDoorYj
import Derived.Test.YtaogfdffgdglkaaGreatDoorYo
import Derived.Test.YtaogfdffgdglkaaGreatDoorYa
import Derived.RegionTactic
import Derived.ChangeAlike
namespace Go.Proofs.YtaogfdffgdglkaaGreatDoor
open Go Go.RowKit Go.Lib
set_option linter.unusedSimpArgs false
set_option linter.unusedVariables false
section
def Wq (l : List UInt8) (p d k : Nat) (t : List UInt8) (tq d' : Nat) : Prop :=
 p < tq /\ tq <= l.length /\ 1 <= k /\ k <= 11 /\ (4 < k -> t = []) /\ ((k = 8 \/ k = 10) /\ d' = d + 1 \/ (k = 9 \/ k = 11) /\ d = d' + 1 \/ (k <= 7 /\ d' = d)) /\ (k = 7 -> 0 < d) /\ (k = 5 -> d = 0)
theorem FX {l : List UInt8} {p d k tq d' : Nat} {t : List UInt8} (hp : p <= l.length) (h : BE l p d = .ok k t tq d') : Wq l p d k t tq d' := by
 obtain ⟨rfl, rfl, h3, h4, h5, h6, h7⟩ := Qt hp h
 exact ⟨h6, h7, by omega, by omega, by omega, by omega, by omega, by omega⟩
theorem FB {l : List UInt8} {p d k tq d' : Nat} {t : List UInt8} (hv : validD l = true) (hp : p < l.length) (h : CU l p d = .ok k t tq d') : Wq l p d k t tq d' := by
 unfold CU NH at h
 split at h
 ·rename_i hc
  obtain ⟨q, hq, hq8⟩ := FC hp hc
  unfold DY at h
  split at h
  ·rename_i he
   have := LZ hq hq8 hv he
   split at h
   ·injection h with h1 h2 h3 h4
    subst h1 h2 h3 h4
    exact ⟨by omega, by omega, by omega, by omega, by omega, by omega, by omega, by omega⟩
   ·cases h
  ·cases h
 ·split at h
  ·unfold FW at h
   split at h
   ·rename_i hn
    injection h with h1 h2 h3 h4
    subst h1 h2 h3 h4
    have hle : (Bd l p).length <= (l.drop (p + 1)).length := (List.takeWhile_prefix _).length_le
    rw [List.length_drop] at hle
    refine ⟨by omega, by omega, by split <;> omega, by split <;> omega, fun hk => by split at hk <;> omega, ?_, fun hk => by split at hk <;> omega, fun hk => by split at hk <;> omega⟩
    refine .inr (.inr ⟨by split <;> omega, rfl⟩)
   ·cases h
  ·split at h
   ·unfold DW at h
    split at h
    ·split at h
     ·cases h
     ·injection h with h1 h2 h3 h4
      subst h1 h2 h3 h4
      exact ⟨by omega, by omega, by omega, by omega, fun _ => rfl, by omega, by omega, by omega⟩
    ·exact FX (by omega) h
   ·split at h
    ·unfold D0 at h
     split at h
     ·injection h with h1 h2 h3 h4
      subst h1 h2 h3 h4
      exact ⟨by omega, by omega, by omega, by omega, fun _ => rfl, by omega, by omega, by omega⟩
     ·exact FX (by omega) h
    ·split at h
     ·injection h with h1 h2 h3 h4
      subst h1 h2 h3 h4
      refine ⟨by omega, by omega, by split <;> omega, by split <;> omega, fun _ => rfl, .inl ⟨by split <;> simp, rfl⟩, fun hk => by split at hk <;> omega, fun hk => by split at hk <;> omega⟩
     ·split at h
      ·unfold Cx at h
       split at h
       ·cases h
       ·split at h
        ·injection h with h1 h2 h3 h4
         subst h1 h2 h3 h4
         exact ⟨by omega, by omega, by omega, by omega, fun _ => rfl, by omega, by omega, by omega⟩
        ·injection h with h1 h2 h3 h4
         subst h1 h2 h3 h4
         refine ⟨by omega, by omega, by split <;> omega, by split <;> omega, fun _ => rfl, .inr (.inl ⟨by split <;> simp, by omega⟩), fun hk => by split at hk <;> omega, fun hk => by split at hk <;> omega⟩
      ·exact FX (by omega) h
theorem Ga {l : List UInt8} {p d e : Nat} (h : BE l p d = .bad e) : e = 51 := by
 unfold BE at h
 split at h
 ·cases h
 ·injection h with h; exact h.symm
theorem Ru {l : List UInt8} {p d e : Nat} (hv : validD l = true) (hp : p < l.length) (h : CU l p d = .bad e) : e = 51 \/ e = 90 \/ e = 41 \/ e = 42 := by
 unfold CU NH at h
 split at h
 ·rename_i hc
  obtain ⟨q, hq, hq8⟩ := FC hp hc
  have hr := JU hq hv
  unfold DY at h
  split at h
  ·split at h
   ·cases h
   ·injection h with h; omega
  ·injection h with h; omega
 ·split at h
  ·unfold FW at h
   split at h
   ·cases h
   ·injection h with h; omega
  ·split at h
   ·unfold DW at h
    split at h
    ·split at h
     ·injection h with h; omega
     ·cases h
    ·have := Ga h; omega
   ·split at h
    ·unfold D0 at h
     split at h
     ·cases h
     ·have := Ga h; omega
    ·split at h
     ·cases h
     ·split at h
      ·unfold Cx at h
       split at h
       ·injection h with h; omega
       ·split at h <;> cases h
      ·have := Ga h; omega
theorem E3 {l : List UInt8} (hv : validD l = true) : ∀ (f g p d : Nat), l.length < f + p -> l.length < g + p -> BG l f p d = BG l g p d
 | 0, 0, p, d, _, _ => rfl
 | 0, g + 1, p, d, hf, _ => by unfold BG; rw [if_pos (by omega)]
 | f + 1, 0, p, d, _, hg => by unfold BG; rw [if_pos (by omega)]
 | f + 1, g + 1, p, d, hf, hg => by
  unfold BG
  split
  ·rfl
  ·rename_i hp
   split
   ·exact E3 hv f g (p + 1) d (by omega) (by omega)
   ·split
    ·rfl
    ·cases ho : CU l p d with
     | bad e => rfl
     | ok k t tq d' =>
      have := FB hv (by omega) ho
      exact congrArg _ (E3 hv f g tq d' (by have := this.1; omega) (by have := this.1; omega))
theorem Ck {l : List UInt8} (hv : validD l = true) {f p : Nat} (d : Nat) (h : l.length < f + p) : AK l p d = BG l f p d := by
 unfold AK
 rcases Nat.lt_or_ge l.length p with h1 | h1
 ·rw [show l.length + 1 - p = 0 by omega]
  exact E3 hv 0 f p d (by omega) h
 ·exact E3 hv _ f p d (by omega) h
theorem KU {l : List UInt8} {p : Nat} (d : Nat) (h : l.length <= p) : AK l p d = [] := by
 unfold AK
 cases hn : l.length + 1 - p with
 | zero => rfl
 | succ n => unfold BG; rw [if_pos h]
theorem Hy {l : List UInt8} (hv : validD l = true) {p d : Nat} (hp : p < l.length) (h : C3 l p [32] = true) : AK l p d = AK l (p + 1) d := by
 rw [Ck hv d (f := l.length + 1) (by omega), Ck hv (p := p + 1) d (f := l.length) (by omega)]
 show (if l.length <= p then [] else _) = _
 rw [if_neg (by omega), if_pos h]
theorem NQ {l : List UInt8} (hv : validD l = true) {p d : Nat} (hp : p < l.length) (h : C3 l p [32] = false) (hn : BV l p = true) : AK l p d = [] := by
 rw [Ck hv d (f := l.length + 1) (by omega)]
 show (if l.length <= p then [] else _) = _
 rw [if_neg (by omega), h, if_neg (by decide), if_pos hn]
theorem G3 {l : List UInt8} (hv : validD l = true) {p d k tq d' : Nat} {t : List UInt8} (hp : p < l.length) (h : C3 l p [32] = false) (hn : BV l p = false) (ho : CU l p d = .ok k t tq d') : AK l p d = .tok k t p :: AK l tq d' := by
 rw [Ck hv d (f := l.length + 1) (by omega), Ck hv (p := tq) d' (f := l.length) (by have := (FB hv hp ho).1; omega)]
 show (if l.length <= p then [] else _) = _
 rw [if_neg (by omega), h, if_neg (by decide), hn, if_neg (by decide), ho]
theorem PU {l : List UInt8} (hv : validD l = true) {p d e : Nat} (hp : p < l.length) (h : C3 l p [32] = false) (hn : BV l p = false) (ho : CU l p d = .bad e) : AK l p d = [.bad e p] := by
 rw [Ck hv d (f := l.length + 1) (by omega)]
 show (if l.length <= p then [] else _) = _
 rw [if_neg (by omega), h, if_neg (by decide), hn, if_neg (by decide), ho]
def Hm : TP -> Tk
 | .tok k t p => ⟨k, t, p⟩
 | .bad e p => ⟨0, [], 0⟩
def BI : List TP -> Option (Nat × Nat)
 | [] => none
 | .tok _ _ _ :: r => BI r
 | .bad e p :: _ => some (e, p)
theorem DL : ∀ (ps : List TP) (acc : List Tk), Gu ps acc = match BI ps with | some (e, p) => ([], p, e) | none => (acc ++ ps.map Hm, 0, 0)
 | [], acc => by simp [Gu, BI]
 | .tok k t p :: r, acc => by
  unfold Gu BI
  rw [DL r]
  cases BI r with
  | some x => rfl
  | none => simp [Hm]
 | .bad e p :: r, acc => rfl
theorem E4 {l : List UInt8} {f p d : Nat} (hp : p < l.length) : BG l (f + 1) p d = if C3 l p [32] then BG l f (p + 1) d else if BV l p then [] else match CU l p d with
  | .ok k t tq d' => .tok k t p :: BG l f tq d'
  | .bad e => [.bad e p] := by
 show (if l.length <= p then [] else _) = _
 rw [if_neg (by omega)]
 rfl
theorem GL {l : List UInt8} {f p d : Nat} (hp : l.length <= p) : BG l f p d = [] := by
 cases f with
 | zero => rfl
 | succ f => unfold BG; rw [if_pos hp]
theorem IV {l : List UInt8} (hv : validD l = true) : ∀ (f p d e p' : Nat), BI (BG l f p d) = some (e, p') -> (e = 51 \/ e = 90 \/ e = 41 \/ e = 42) /\ p <= p' /\ p' < l.length
 | 0, p, d, e, p', h => by simp [BG, BI] at h
 | f + 1, p, d, e, p', h => by
  rcases Nat.lt_or_ge p l.length with hp | hp
  ·rw [E4 hp] at h
   split at h
   ·have := IV hv f _ _ _ _ h; omega
   ·split at h
    ·simp [BI] at h
    ·cases ho : CU l p d with
     | ok k t tq d' =>
      rw [ho] at h
      have h1 := (FB hv hp ho).1
      have := IV hv f tq d' e p' h
      omega
     | bad e2 =>
      rw [ho] at h
      injection h with h
      injection h with h1 h2
      subst h1 h2
      exact ⟨Ru hv hp ho, by omega, hp⟩
  ·rw [GL hp] at h; simp [BI] at h
def RO (n : Nat) : Int -> Nat -> List Tk -> Prop
 | _, _, [] => True
 | last, d, t :: r => last < (t.at_ : Int) /\ t.at_ < n /\ 1 <= t.kind /\ t.kind <= 11 /\ (4 < t.kind -> t.str = []) ∧
   ∃ d', ((t.kind = 8 \/ t.kind = 10) /\ d' = d + 1 \/ (t.kind = 9 \/ t.kind = 11) /\ d = d' + 1 \/ (t.kind <= 7 /\ d' = d)) /\ (t.kind = 7 -> 0 < d) /\ (t.kind = 5 -> d = 0) /\ RO n (t.at_ : Int) d' r
theorem Fu {l : List UInt8} (hv : validD l = true) : ∀ (f p d : Nat) (last : Int), last < (p : Int) -> BI (BG l f p d) = none -> RO l.length last d ((BG l f p d).map Hm)
 | 0, p, d, last, hl, _ => trivial
 | f + 1, p, d, last, hl, h => by
  rcases Nat.lt_or_ge p l.length with hp | hp
  ·rw [E4 hp] at h |-
   split
   ·rename_i hb
    rw [if_pos hb] at h
    exact Fu hv f (p + 1) d last (by omega) h
   ·rename_i hb
    rw [if_neg hb] at h
    split
    ·trivial
    ·rename_i hn
     rw [if_neg hn] at h
     cases ho : CU l p d with
     | ok k t tq d' =>
      rw [ho] at h
      obtain ⟨h1, h2, h3, h4, h5, h6, h7, h8⟩ := FB hv hp ho
      exact ⟨hl, hp, h3, h4, h5, d', h6, h7, h8, Fu hv f tq d' p (by omega) h⟩
     | bad e => rw [ho] at h; simp [BI] at h
  ·rw [GL hp]; trivial
def Tu (n : Nat) : TR -> TR
 | .ok k t tq d => .ok k t (n + tq) d
 | .bad e => .bad e
def O7 (n : Nat) : TP -> TP
 | .tok k t p => .tok k t (n + p)
 | .bad e p => .bad e (n + p)
theorem BS (b l : List UInt8) (i : Nat) (bs : List UInt8) : C3 (b ++ l) (b.length + i) bs = C3 l i bs := by
 unfold C3
 rw [DM, List.length_append]
 congr 1
 rw [Bool.eq_iff_iff]; simp
theorem EC (b l : List UInt8) (i : Nat) : C2 (b ++ l) (b.length + i) = C2 l i := by
 unfold C2
 rw [BS, List.length_append]
 congr 1
 rw [Bool.eq_iff_iff]; simp
theorem Cd (b l : List UInt8) (i d : Nat) : AF (b ++ l) (b.length + i) d = AF l i d := by
 unfold AF
 rw [BS, EC]
structure H5 (b : List UInt8) : Prop where
 v : validD b = true
 e : b = [] \/ b.getD (b.length - 1) 0 = 32
theorem Hv {b : List UInt8} (hb : H5 b) (l : List UInt8) (p : Nat) : BV (b ++ l) (b.length + p) = BV l p := by
 unfold BV
 rw [BS]
 congr 1
 cases p with
 | succ k =>
  rw [show b.length + (k + 1) - 1 = b.length + k by omega, BS]
  congr 1
 | zero =>
  rcases hb.e with rfl | he
  ·simp
  ·have hpos : 0 < b.length := by
    rcases Nat.eq_zero_or_pos b.length with h0 | h0
    ·rw [List.eq_nil_of_length_eq_zero h0] at he; exact absurd he (by decide)
    ·exact h0
   have : C3 (b ++ l) (b.length + 0 - 1) [32] = true := by
    unfold C3
    rw [K6 _ _ _ (by omega), Nat.add_zero, he]
    simp [Bm]
    omega
   rw [this]; simp
theorem NC {b : List UInt8} (hb : H5 b) (l : List UInt8) (p d : Nat) : G7 (b ++ l) (b.length + p) d = G7 l p d := by
 unfold G7
 rw [BS, BS, Hv hb, Nat.add_assoc, Cd, List.length_append]
 congr 1
 rw [Bool.eq_iff_iff]; simp
theorem J3 {b : List UInt8} (hb : H5 b) (l : List UInt8) (d : Nat) : ∀ f p, FI (b ++ l) d f (b.length + p) = b.length + FI l d f p
 | 0, p => rfl
 | f + 1, p => by
  unfold FI
  rw [NC hb]
  split
  ·rfl
  ·rw [Nat.add_assoc]; exact J3 hb l d f (p + 1)
theorem NI {b : List UInt8} (hb : H5 b) (l : List UInt8) (p d : Nat) : DG (b ++ l) (b.length + p) d = b.length + DG l p d := by
 unfold DG
 rw [J3 hb, List.length_append, show b.length + l.length - (b.length + p) = l.length - p by omega]
theorem Qu (b l : List UInt8) (e p : Nat) : ((b ++ l).take (b.length + e)).drop (b.length + p) = (l.take e).drop p := by
 rw [List.take_append, List.take_of_length_le (by omega), show b.length + e - b.length = e by omega, <- List.drop_drop, List.drop_left]
theorem Ez {b : List UInt8} (hb : H5 b) (l : List UInt8) (p d : Nat) : BE (b ++ l) (b.length + p) d = Tu b.length (BE l p d) := by
 unfold BE
 rw [NI hb, Qu]
 split <;> rfl
theorem L8 (b l : List UInt8) (p : Nat) : Bd (b ++ l) (b.length + p) = Bd l p := by
 unfold Bd
 rw [Nat.add_assoc, <- List.drop_drop, List.drop_left]
theorem N7 {b : List UInt8} (hb : H5 b) {l : List UInt8} {p : Nat} (d : Nat) (hv : validD l = true) (hp : p < l.length) : CU (b ++ l) (b.length + p) d = Tu b.length (CU l p d) := by
 unfold CU
 rw [DM]
 unfold NH
 split
 ·rename_i hc
  obtain ⟨q, hq, _⟩ := FC hp hc
  unfold DY
  rw [LY hq hb.v hv]
  by_cases he : (B6 ⟨l.toArray⟩ p).2.2 = 0
  ·simp only [he, if_true]
   rw [Cd, BS]
   split <;> rfl
  ·simp only [he, if_false]; rfl
 ·split
  ·unfold FW
   rw [L8, BS, show b.length + p + 1 + (Bd l p).length = b.length + (p + 1 + (Bd l p).length) by omega, Cd]
   split <;> rfl
  ·split
   ·unfold DW
    rw [Ez hb, Nat.add_assoc, EC]
    split
    ·split <;> rfl
    ·rfl
   ·split
    ·unfold D0
     rw [Ez hb, Nat.add_assoc, Cd]
     split <;> rfl
    ·split
     ·simp [Tu, Nat.add_assoc]
     ·split
      ·unfold Cx
       split
       ·rfl
       ·split <;> simp [Tu, Nat.add_assoc]
      ·exact Ez hb l p d
theorem Fj {b : List UInt8} (hb : H5 b) {l : List UInt8} (hv : validD l = true) : ∀ (f p d : Nat), BG (b ++ l) f (b.length + p) d = (BG l f p d).map (O7 b.length)
 | 0, p, d => rfl
 | f + 1, p, d => by
  unfold BG
  by_cases hp : l.length <= p
  ·rw [if_pos hp, if_pos (by rw [List.length_append]; omega)]; rfl
  ·rw [if_neg hp, if_neg (by rw [List.length_append]; omega), BS, Hv hb]
   split
   ·rw [Nat.add_assoc]; exact Fj hb hv f (p + 1) d
   ·split
    ·rfl
    ·rw [N7 hb d hv (by omega)]
     cases ho : CU l p d with
     | bad e => rfl
     | ok k t tq d' =>
      show TP.tok k t _ :: BG _ f _ d' = _
      rw [Fj hb hv f tq d']; rfl
theorem Ic (n : Nat) : ∀ ps : List TP, BI (ps.map (O7 n)) = (BI ps).map fun x => (x.1, n + x.2)
 | [] => rfl
 | .tok _ _ _ :: r => Ic n r
 | .bad _ _ :: _ => rfl
theorem TZ (l : List UInt8) {p : Nat} (h : p < l.length) : p + 1 + (Bd l p).length <= l.length := by
 have hle : (Bd l p).length <= (l.drop (p + 1)).length := (List.takeWhile_prefix _).length_le
 rw [List.length_drop] at hle
 omega
theorem ML (c : UInt8) (l : List UInt8) (h : c.toNat < 128) : AH (c :: l) = c.toNat :: AH l := by
 rw [Cs (c :: l) (by simp), decodeL_ascii c l h]; rfl
end
section
set_option maxRecDepth 100000
set_option maxHeartbeats 4000000
theorem TD {s : ByteArray} {l : List UInt8} (h : s.data.toList = l) : s = ⟨l.toArray⟩ := by subst h; rfl
theorem KK (s : ByteArray) (p : Nat) (hp : p < s.size) : (Bd s.data.toList p).length <= s.size - (p + 1) := by
 have := TZ s.data.toList (p := p) (by rw [<- Lib.size_eq]; exact hp)
 rw [<- Lib.size_eq] at this
 omega
theorem Ha (s : ByteArray) (p : Nat) : (s.extract p s.size).data.toList = s.data.toList.drop p := by
 rw [Lib.extract_data, List.take_of_length_le (by rw [List.length_drop, <- Lib.size_eq]; omega)]
theorem MF (l : List UInt8) : l.take (l.takeWhile Cq).length = l.takeWhile Cq := (List.prefix_iff_eq_take.1 (List.takeWhile_prefix _)).symm
theorem M9 (s : ByteArray) (p : Nat) : (s.extract (p + 1) s.size).extract 0 (Bd s.data.toList p).length = ⟨(Bd s.data.toList p).toArray⟩ := by
 refine (TD ?_)
 rw [Lib.extract_data, Ha, List.drop_zero, Nat.sub_zero]
 exact MF _
theorem Tg (R : Nat) (s : ByteArray) (p d : Nat) (w : World) (hs : s.size <= 1000000) (hp : p < s.size) (hR : RA w R s p d) (hst : C3 s.data.toList p [42] = true) (r : TR) (HR : Hid ((if Fo (Bd s.data.toList p) && AF s.data.toList (p + 1 + (Bd s.data.toList p).length) d then .ok 4 (Bd s.data.toList p) (p + 1 + (Bd s.data.toList p).length) d else .bad 90) = r)) :
  Calls Tryz.prog 157 #[.pointer (some ⟨R, 0, none⟩)] w (AG R s p r w) := by
 have hI := fun N wx hn hx => QJ N R s p d 0 p [42] 1 1 (0, 0) wx hn hs (by omega) (by omega) rfl (by omega) hx
 rw [hst] at hI
 clear hst
 have hlt := hR.lt
 have hns := KK s p hp
 have hNS := M9 s p
 have hLs := KF (s.extract (p + 1) s.size)
 rw [Ha] at hLs
 rw [show (s.data.toList.drop (p + 1)).takeWhile Cq = Bd s.data.toList p from rfl] at hLs
 obtain ⟨nm, hnm⟩ : ∃ nm, Bd s.data.toList p = nm := ⟨_, rfl⟩
 rw [hnm] at HR hns hNS hLs
 clear hnm
 obtain ⟨n, hn⟩ : ∃ n, nm.length = n := ⟨_, rfl⟩
 rw [hn] at HR hns hNS hLs
 obtain ⟨P2, hP2⟩ : ∃ P2, p + 1 + n = P2 := ⟨_, rfl⟩
 rw [hP2] at HR
 have hRz : (s.extract (p + 1) s.size).size = s.size - (p + 1) := by rw [ByteArray.size_extract]; omega
 have hp1 : ((p : Int) + 1).toNat = p + 1 := by omega
 have hT := fun wx => Tryz.strings_TrimLeftFunc_grows 175 #[] (enters_of Tryz.func175 (by kernel_rfl) rfl) DZ (s.extract (p + 1) s.size) wx (Gr wx)
 obtain ⟨LT, hLT⟩ : ∃ LT, trimLeftF DZ (s.extract (p + 1) s.size) = LT := ⟨_, rfl⟩
 rw [hLT] at hT hLs
 clear hLT
 obtain ⟨RS, hRS⟩ : ∃ RS, s.extract (p + 1) s.size = RS := ⟨_, rfl⟩
 rw [hRS] at hT hLs hRz hNS
 have hsub : (RS.size : Int) - (LT.size : Int) = (n : Int) := by omega
 have hsubw : IntKind.i64.wrap ((RS.size : Int) - (LT.size : Int)) = (n : Int) := by rw [hsub]; exact IntWalk.i64_in _ (by omega)
 have hni : (n : Int) <= (RS.size : Int) := by omega
 have hRb : (RS.size : Int) <= 1000000 := by omega
 have hnb1 : (n : Int) <= 1000000 := by omega
 have hN := fun wx => I1 ⟨nm.toArray⟩ wx (by rw [CB]; omega)
 rw [BM] at hN
 have hC := fun wx hx => Bv R s P2 d 0 P2 wx hs rfl (by omega) hx
 obtain ⟨nb, hnb⟩ : ∃ nb, Fo nm = nb := ⟨_, rfl⟩
 obtain ⟨cb, hcb⟩ : ∃ cb, AF s.data.toList P2 d = cb := ⟨_, rfl⟩
 rw [hnb] at hN HR
 rw [hcb] at hC HR
 clear hnb hcb
 have hw2 : IntKind.i64.wrap (1 + (n : Int)) = 1 + (n : Int) := IntWalk.i64_in _ (by omega)
 have hw3 : IntKind.i64.wrap ((p : Int) + (1 + (n : Int))) = (P2 : Int) := by rw [show (p : Int) + (1 + (n : Int)) = (P2 : Int) by omega]; exact IntWalk.i64_in _ (by omega)
 have hw3' : (p : Int) + (1 + (n : Int)) = (P2 : Int) := by omega
 have hpi : (p : Int) < (s.size : Int) := by omega
 have hSZ : (⟨nm.toArray⟩ : ByteArray).size = n := by rw [CB]; exact hn
 have HALL := hid (Ai hRS (Ai hNS (Ai hRz (Ai hSZ (Ai hw2 (Ai hw3 hw3'))))))
 have hpb : (p : Int) <= 1000000 := by omega
 clear hRS hNS hRz hSZ hw2 hw3 hw3' hP2 hn hLs hns
 have hY := Sy.new hR (.int .i64 3) (.string ⟨#[]⟩) (.int .i64 p)
 obtain ⟨r0, r1, r2, f0, f1, f2⟩ := hR.cells
 go_enter Tryz.func157, Tryz.ntmps157
 go_wp2_with fail
 refine (hI _ _ (by simp) hY.sx.ra).mono ?_
 rintro e w1 ⟨rfl, hb1⟩
 replace hY := hY.below hb1
 clear hI hb1 r0 r1 r2 f0 f1 f2
 obtain ⟨r0, r1, r2, f0, f1, f2⟩ := hY.sx.ra.cells
 obtain ⟨t0, t1, t2, u0, u1, u2⟩ := hY.cells
 replace hY := hY.putK hlt (.int .i64 4)
 have hRS := HALL.out.1
 have hp1le : (p : Int) + 1 <= (s.size : Int) := by omega
 go_wp2
 go_quiet (fail)
 replace hY := hY.below (Ae (n := nq) (Bq _ _))
 clear r0 r1 r2 f0 f1 f2 t0 t1 t2 u0 u1 u2 hRS hp1 hp1le
 go_wp2_with fail
 refine (hT _).mono ?_
 rintro e w2 ⟨rfl, hb2⟩
 replace hY := hY.below hb2
 clear hb2 hT
 obtain ⟨r0, r1, r2, f0, f1, f2⟩ := hY.sx.ra.cells
 obtain ⟨t0, t1, t2, u0, u1, u2⟩ := hY.cells
 have hNS := HALL.out.2.1
 replace hY := hY.putS hlt (.string ⟨nm.toArray⟩)
 go_wp2
 clear r0 r1 r2 f0 f1 f2 t0 t1 t2 u0 u1 u2 hNS
 revert hY
 generalize w2.setCell ⟨w.heap.size + 1, 1, none⟩ (.string ⟨nm.toArray⟩) = w3
 intro hY
 obtain ⟨r0, r1, r2, f0, f1, f2⟩ := hY.sx.ra.cells
 obtain ⟨t0, t1, t2, u0, u1, u2⟩ := hY.cells
 have hSZ := HALL.out.2.2.2.1
 have hw2 := HALL.out.2.2.2.2.1
 have hw3 := HALL.out.2.2.2.2.2.1
 have hw3' := HALL.out.2.2.2.2.2.2
 go_region
 replace hY := (hY.set1 hlt P2).drew
 clear r0 r1 r2 f0 f1 f2 t0 t1 t2 u0 u1 u2 hSZ hw2 hw3 hw3' HALL hsub hsubw hni
 revert hY
 generalize (w3.setCell ⟨R, 1, none⟩ (.int .i64 P2)).drew = w4
 intro hY
 obtain ⟨t0, t1, t2, u0, u1, u2⟩ := hY.cells
 go_wp2_with fail
 refine (hN _).mono ?_
 rintro e w5 ⟨rfl, hb5⟩
 replace hY := hY.below hb5
 clear hN hb5 t0 t1 t2 u0 u1 u2
 cases nb with
 | false =>
  have HQ := hid (show r = .bad 90 by rw [<- HR.out, Bool.false_and, if_neg (by decide)])
  obtain ⟨n0, n1, n2, g0, g1, g2⟩ := hY.sx.cells
  obtain ⟨t0, t1, t2, u0, u1, u2⟩ := hY.cells
  go_wp2
  obtain ⟨e0, e1, e2, e3, e4⟩ := hY.sx.fin hlt (.int .i64 0) (.string ⟨#[]⟩) (.int .i64 0)
  refine bodyPost_ret (v := .tuple #[BP ⟨0, [], 0⟩, .iface 198 (.agg #[.int .i64 90])]) (by simp [results, Tryz.results157, go_sem, BP, e0, e1, e2]) rfl (AG.bad HQ.out rfl e4)
 | true =>
  go_wp2_with fail
  refine (hC _ hY.sx.ra).mono ?_
  rintro e w6 ⟨rfl, hb6⟩
  replace hY := hY.below hb6
  clear hC hb6
  cases cb with
  | false =>
   have HQ := hid (show r = .bad 90 by rw [<- HR.out, Bool.true_and, if_neg (by decide)])
   obtain ⟨n0, n1, n2, g0, g1, g2⟩ := hY.sx.cells
   obtain ⟨t0, t1, t2, u0, u1, u2⟩ := hY.cells
   go_wp2
   obtain ⟨e0, e1, e2, e3, e4⟩ := hY.sx.fin hlt (.int .i64 0) (.string ⟨#[]⟩) (.int .i64 0)
   refine bodyPost_ret (v := .tuple #[BP ⟨0, [], 0⟩, .iface 198 (.agg #[.int .i64 90])]) (by simp [results, Tryz.results157, go_sem, BP, e0, e1, e2]) rfl (AG.bad HQ.out rfl e4)
  | true =>
   have HQ := hid (show r = .ok 4 nm P2 d by rw [<- HR.out, Bool.true_and, if_pos rfl])
   obtain ⟨n0, n1, n2, g0, g1, g2⟩ := hY.sx.cells
   obtain ⟨t0, t1, t2, u0, u1, u2⟩ := hY.cells
   go_wp2
   obtain ⟨e0, e1, e2, e3, e4⟩ := hY.sx.fin hlt (.int .i64 4) (.string ⟨nm.toArray⟩) (.int .i64 p)
   refine bodyPost_ret (v := .tuple #[BP ⟨4, nm, p⟩, .nilIface]) (by simp [results, Tryz.results157, go_sem, BP, e0, e1, e2]) rfl (AG.ok HQ.out rfl e3 e4)
theorem TN (R : Nat) (s : ByteArray) (p d : Nat) (w : World) (hs : s.size <= 1000000) (hp : p < s.size) (hR : RA w R s p d) (hst : C3 s.data.toList p [42] = false) (r : TR) (HR : Hid ((if Fo (Bd s.data.toList p) && AF s.data.toList (p + 1 + (Bd s.data.toList p).length) d then .ok 3 (Bd s.data.toList p) (p + 1 + (Bd s.data.toList p).length) d else .bad 90) = r)) :
  Calls Tryz.prog 157 #[.pointer (some ⟨R, 0, none⟩)] w (AG R s p r w) := by
 have hI := fun N wx hn hx => QJ N R s p d 0 p [42] 1 1 (0, 0) wx hn hs (by omega) (by omega) rfl (by omega) hx
 rw [hst] at hI
 clear hst
 have hlt := hR.lt
 have hns := KK s p hp
 have hNS := M9 s p
 have hLs := KF (s.extract (p + 1) s.size)
 rw [Ha] at hLs
 rw [show (s.data.toList.drop (p + 1)).takeWhile Cq = Bd s.data.toList p from rfl] at hLs
 obtain ⟨nm, hnm⟩ : ∃ nm, Bd s.data.toList p = nm := ⟨_, rfl⟩
 rw [hnm] at HR hns hNS hLs
 clear hnm
 obtain ⟨n, hn⟩ : ∃ n, nm.length = n := ⟨_, rfl⟩
 rw [hn] at HR hns hNS hLs
 obtain ⟨P2, hP2⟩ : ∃ P2, p + 1 + n = P2 := ⟨_, rfl⟩
 rw [hP2] at HR
 have hRz : (s.extract (p + 1) s.size).size = s.size - (p + 1) := by rw [ByteArray.size_extract]; omega
 have hp1 : ((p : Int) + 1).toNat = p + 1 := by omega
 have hT := fun wx => Tryz.strings_TrimLeftFunc_grows 175 #[] (enters_of Tryz.func175 (by kernel_rfl) rfl) DZ (s.extract (p + 1) s.size) wx (Gr wx)
 obtain ⟨LT, hLT⟩ : ∃ LT, trimLeftF DZ (s.extract (p + 1) s.size) = LT := ⟨_, rfl⟩
 rw [hLT] at hT hLs
 clear hLT
 obtain ⟨RS, hRS⟩ : ∃ RS, s.extract (p + 1) s.size = RS := ⟨_, rfl⟩
 rw [hRS] at hT hLs hRz hNS
 have hsub : (RS.size : Int) - (LT.size : Int) = (n : Int) := by omega
 have hsubw : IntKind.i64.wrap ((RS.size : Int) - (LT.size : Int)) = (n : Int) := by rw [hsub]; exact IntWalk.i64_in _ (by omega)
 have hni : (n : Int) <= (RS.size : Int) := by omega
 have hRb : (RS.size : Int) <= 1000000 := by omega
 have hnb1 : (n : Int) <= 1000000 := by omega
 have hN := fun wx => I1 ⟨nm.toArray⟩ wx (by rw [CB]; omega)
 rw [BM] at hN
 have hC := fun wx hx => Bv R s P2 d 0 P2 wx hs rfl (by omega) hx
 obtain ⟨nb, hnb⟩ : ∃ nb, Fo nm = nb := ⟨_, rfl⟩
 obtain ⟨cb, hcb⟩ : ∃ cb, AF s.data.toList P2 d = cb := ⟨_, rfl⟩
 rw [hnb] at hN HR
 rw [hcb] at hC HR
 clear hnb hcb
 have hw2 : IntKind.i64.wrap (1 + (n : Int)) = 1 + (n : Int) := IntWalk.i64_in _ (by omega)
 have hw3 : IntKind.i64.wrap ((p : Int) + (1 + (n : Int))) = (P2 : Int) := by rw [show (p : Int) + (1 + (n : Int)) = (P2 : Int) by omega]; exact IntWalk.i64_in _ (by omega)
 have hw3' : (p : Int) + (1 + (n : Int)) = (P2 : Int) := by omega
 have hpi : (p : Int) < (s.size : Int) := by omega
 have hSZ : (⟨nm.toArray⟩ : ByteArray).size = n := by rw [CB]; exact hn
 have HALL := hid (Ai hRS (Ai hNS (Ai hRz (Ai hSZ (Ai hw2 (Ai hw3 hw3'))))))
 have hpb : (p : Int) <= 1000000 := by omega
 clear hRS hNS hRz hSZ hw2 hw3 hw3' hP2 hn hLs hns
 have hY := Sy.new hR (.int .i64 3) (.string ⟨#[]⟩) (.int .i64 p)
 obtain ⟨r0, r1, r2, f0, f1, f2⟩ := hR.cells
 go_enter Tryz.func157, Tryz.ntmps157
 go_wp2_with fail
 refine (hI _ _ (by simp) hY.sx.ra).mono ?_
 rintro e w1 ⟨rfl, hb1⟩
 replace hY := hY.below hb1
 clear hI hb1 r0 r1 r2 f0 f1 f2
 obtain ⟨r0, r1, r2, f0, f1, f2⟩ := hY.sx.ra.cells
 obtain ⟨t0, t1, t2, u0, u1, u2⟩ := hY.cells
 have hRS := HALL.out.1
 have hp1le : (p : Int) + 1 <= (s.size : Int) := by omega
 go_wp2
 go_quiet (fail)
 replace hY := hY.below (Ae (n := nq) (Bq _ _))
 clear r0 r1 r2 f0 f1 f2 t0 t1 t2 u0 u1 u2 hRS hp1 hp1le
 go_wp2_with fail
 refine (hT _).mono ?_
 rintro e w2 ⟨rfl, hb2⟩
 replace hY := hY.below hb2
 clear hb2 hT
 obtain ⟨r0, r1, r2, f0, f1, f2⟩ := hY.sx.ra.cells
 obtain ⟨t0, t1, t2, u0, u1, u2⟩ := hY.cells
 have hNS := HALL.out.2.1
 replace hY := hY.putS hlt (.string ⟨nm.toArray⟩)
 go_wp2
 clear r0 r1 r2 f0 f1 f2 t0 t1 t2 u0 u1 u2 hNS
 revert hY
 generalize w2.setCell ⟨w.heap.size + 1, 1, none⟩ (.string ⟨nm.toArray⟩) = w3
 intro hY
 obtain ⟨r0, r1, r2, f0, f1, f2⟩ := hY.sx.ra.cells
 obtain ⟨t0, t1, t2, u0, u1, u2⟩ := hY.cells
 have hSZ := HALL.out.2.2.2.1
 have hw2 := HALL.out.2.2.2.2.1
 have hw3 := HALL.out.2.2.2.2.2.1
 have hw3' := HALL.out.2.2.2.2.2.2
 go_region
 replace hY := (hY.set1 hlt P2).drew
 clear r0 r1 r2 f0 f1 f2 t0 t1 t2 u0 u1 u2 hSZ hw2 hw3 hw3' HALL hsub hsubw hni
 revert hY
 generalize (w3.setCell ⟨R, 1, none⟩ (.int .i64 P2)).drew = w4
 intro hY
 obtain ⟨t0, t1, t2, u0, u1, u2⟩ := hY.cells
 go_wp2_with fail
 refine (hN _).mono ?_
 rintro e w5 ⟨rfl, hb5⟩
 replace hY := hY.below hb5
 clear hN hb5 t0 t1 t2 u0 u1 u2
 cases nb with
 | false =>
  have HQ := hid (show r = .bad 90 by rw [<- HR.out, Bool.false_and, if_neg (by decide)])
  obtain ⟨n0, n1, n2, g0, g1, g2⟩ := hY.sx.cells
  obtain ⟨t0, t1, t2, u0, u1, u2⟩ := hY.cells
  go_wp2
  obtain ⟨e0, e1, e2, e3, e4⟩ := hY.sx.fin hlt (.int .i64 0) (.string ⟨#[]⟩) (.int .i64 0)
  refine bodyPost_ret (v := .tuple #[BP ⟨0, [], 0⟩, .iface 198 (.agg #[.int .i64 90])]) (by simp [results, Tryz.results157, go_sem, BP, e0, e1, e2]) rfl (AG.bad HQ.out rfl e4)
 | true =>
  go_wp2_with fail
  refine (hC _ hY.sx.ra).mono ?_
  rintro e w6 ⟨rfl, hb6⟩
  replace hY := hY.below hb6
  clear hC hb6
  cases cb with
  | false =>
   have HQ := hid (show r = .bad 90 by rw [<- HR.out, Bool.true_and, if_neg (by decide)])
   obtain ⟨n0, n1, n2, g0, g1, g2⟩ := hY.sx.cells
   obtain ⟨t0, t1, t2, u0, u1, u2⟩ := hY.cells
   go_wp2
   obtain ⟨e0, e1, e2, e3, e4⟩ := hY.sx.fin hlt (.int .i64 0) (.string ⟨#[]⟩) (.int .i64 0)
   refine bodyPost_ret (v := .tuple #[BP ⟨0, [], 0⟩, .iface 198 (.agg #[.int .i64 90])]) (by simp [results, Tryz.results157, go_sem, BP, e0, e1, e2]) rfl (AG.bad HQ.out rfl e4)
  | true =>
   have HQ := hid (show r = .ok 3 nm P2 d by rw [<- HR.out, Bool.true_and, if_pos rfl])
   obtain ⟨n0, n1, n2, g0, g1, g2⟩ := hY.sx.cells
   obtain ⟨t0, t1, t2, u0, u1, u2⟩ := hY.cells
   go_wp2
   obtain ⟨e0, e1, e2, e3, e4⟩ := hY.sx.fin hlt (.int .i64 3) (.string ⟨nm.toArray⟩) (.int .i64 p)
   refine bodyPost_ret (v := .tuple #[BP ⟨3, nm, p⟩, .nilIface]) (by simp [results, Tryz.results157, go_sem, BP, e0, e1, e2]) rfl (AG.ok HQ.out rfl e3 e4)
theorem PS (R : Nat) (s : ByteArray) (p d : Nat) (w : World) (hs : s.size <= 1000000) (hp : p < s.size) (hR : RA w R s p d) :
  Calls Tryz.prog 157 #[.pointer (some ⟨R, 0, none⟩)] w (AG R s p (FW s.data.toList p d) w) := by
 unfold FW
 cases hst : C3 s.data.toList p [42] with
 | true => exact Tg R s p d w hs hp hR hst _ (hid rfl)
 | false => exact TN R s p d w hs hp hR hst _ (hid rfl)
end
end Go.Proofs.YtaogfdffgdglkaaGreatDoor
