/- What is proved: a part of the walk of the program and of its plain laws; no condition beside those that each theorem names. -/
import Derived.Test.YtaogfdffgdglkaaGreatDoorYq
import Derived.Test.YtaogfdffgdglkaaGreatDoorYa
import Derived.Laws.Strings
import Derived.Deep.DeepCutAuto
import Derived.Deep.CutRange
import Derived.Deep.LoopGhost
import Derived.Deep.QuietTactic
import Derived.BigQuiet
import Derived.Laws.StructEq
namespace Go.Proofs.YtaogfdffgdglkaaGreatDoor
open Go Go.RowKit Go.Lib
set_option linter.unusedSimpArgs false
set_option linter.unusedVariables false
section
structure Pc where
 kind : Int
 str : List UInt8
inductive Tr where
 | mk (kind : Int) (name : ByteArray) (x : Sc) (keys : List Sc) (kids : List Tr)
def Tr.named : Tr -> List UInt8 -> Tr
 | .mk k _ x ks ts, s => .mk k ⟨s.toArray⟩ x ks ts
def Tr.kind : Tr -> Int
 | .mk k _ _ _ _ => k
def Tr.kids : Tr -> List Tr
 | .mk _ _ _ _ ts => ts
def CL : Tr := .mk 0 ⟨#[]⟩ CF [] []
def EO (x : Sc) : Tr := .mk 0 ⟨#[]⟩ x [] []
def FO (s : List UInt8) : Tr := .mk 3 ⟨s.toArray⟩ CF [] []
def BA (ts : List Tr) : Tr := .mk 1 ⟨#[]⟩ CF [] ts
def BJ (ks : List Sc) (ts : List Tr) : Tr := .mk 2 ⟨#[]⟩ CF ks ts
def Ak : Tr -> Nat
 | .mk _ _ _ _ ts => deepTs ts + 1
where deepTs : List Tr -> Nat
 | [] => 0
 | t :: r => max (Ak t) (deepTs r)
theorem Ei (t : Tr) : 1 <= Ak t := by cases t; unfold Ak; omega
theorem E5 (t : Tr) (s : List UInt8) : Ak (t.named s) = Ak t := by cases t; unfold Tr.named Ak; rfl
theorem G4 (ts : List Tr) : Ak (BA ts) = Ak.deepTs ts + 1 := by unfold BA Ak; rfl
theorem GD (ks : List Sc) (ts : List Tr) : Ak (BJ ks ts) = Ak.deepTs ts + 1 := by unfold BJ Ak; rfl
theorem Eq (x : Sc) : Ak (EO x) = 1 := by unfold EO Ak; rfl
theorem M7 (s : List UInt8) : Ak (FO s) = 1 := by unfold FO Ak; rfl
theorem DD : Ak CL = 1 := by unfold CL Ak; rfl
def B3 (t : Pc) : Sc × Int :=
 if t.kind = 1 then (if (Cc ⟨t.str.toArray⟩).2 = 0 then Cc ⟨t.str.toArray⟩ else (CF, (Cc ⟨t.str.toArray⟩).2))
 else if t.kind = 2 then (if validD t.str then (⟨3, 0, ⟨t.str.toArray⟩⟩, 0) else (CF, 40)) else (CF, 91)
def hk : List Pc -> Int
 | [] => 0
 | t :: _ => t.kind
theorem Jy {l c : List Pc} (h : l ≠ []) : hk (l ++ c) = hk l := by
 cases l with
 | nil => exact absurd rfl h
 | cons t r => rfl
inductive FR where
 | ok (t : Tr) (rest : List Pc)
 | bad (e : Int)
mutual
def AZ : Nat -> Nat -> List Pc -> FR
 | 0, _, _ => .bad 91
 | n + 1, d, l => if 24 < d then .bad 73 else
  match l with
  | [] => .bad 91
  | t :: r =>
   if t.kind = 3 then (if hk r = 3 \/ hk r = 4 then .bad 91 else match AZ n d r with
    | .ok v rest => .ok (v.named t.str) rest
    | .bad e => .bad e)
   else if t.kind = 4 then .ok (FO t.str) r
   else if t.kind = 8 then Cz n d r []
   else if t.kind = 10 then BK n d r [] []
   else if (B3 t).2 = 0 then .ok (EO (B3 t).1) r else .bad (B3 t).2
def Cz : Nat -> Nat -> List Pc -> List Tr -> FR
 | 0, _, _, _ => .bad 91
 | n + 1, d, l, acc => if hk l = 9 then .ok (BA acc) l.tail else
  match AZ n (d + 1) l with
  | .bad e => .bad e
  | .ok v rest => if hk rest = 7 then Cz n d rest.tail (acc ++ [v]) else if hk rest = 9 then .ok (BA (acc ++ [v])) rest.tail else .bad 91
def BK : Nat -> Nat -> List Pc -> List Sc -> List Tr -> FR
 | 0, _, _, _, _ => .bad 91
 | n + 1, d, l, ks, ts => if hk l = 11 then .ok (BJ ks ts) l.tail else
  match l with
  | [] => .bad 91
  | t :: r =>
   if (B3 t).2 ≠ 0 then .bad (B3 t).2 else if hk r ≠ 6 then .bad 91 else if 24 < d + 1 then .bad 73 else
   if hk r.tail = 7 then BK n d r.tail.tail (ks ++ [(B3 t).1]) (ts ++ [CL]) else if hk r.tail = 11 then .ok (BJ (ks ++ [(B3 t).1]) (ts ++ [CL])) r.tail.tail else
   match AZ n (d + 1) r.tail with
   | .bad e => .bad e
   | .ok v rest => if hk rest = 7 then BK n d rest.tail (ks ++ [(B3 t).1]) (ts ++ [v]) else if hk rest = 11 then .ok (BJ (ks ++ [(B3 t).1]) (ts ++ [v])) rest.tail else .bad 91
end
mutual
inductive PV : List Pc -> Tr -> Prop
 | key (t : Pc) (h : (B3 t).2 = 0) : PV [t] (EO (B3 t).1)
 | ali (t : Pc) (h : t.kind = 4) : PV [t] (FO t.str)
 | nam (t : Pc) (p : List Pc) (v : Tr) (h : t.kind = 3) (h2 : hk p ≠ 3) (h3 : hk p ≠ 4) (hp : PV p v) : PV (t :: p) (v.named t.str)
 | lst (t : Pc) (p : List Pc) (ts : List Tr) (h : t.kind = 8) (hp : PI p ts) : PV (t :: p) (BA ts)
 | dic (t : Pc) (p : List Pc) (ks : List Sc) (ts : List Tr) (h : t.kind = 10) (hp : PD p ks ts) : PV (t :: p) (BJ ks ts)
inductive PI : List Pc -> List Tr -> Prop
 | nil (c : Pc) (h : c.kind = 9) : PI [c] []
 | last (p : List Pc) (v : Tr) (c : Pc) (hp : PV p v) (h : c.kind = 9) : PI (p ++ [c]) [v]
 | cons (p : List Pc) (v : Tr) (m : Pc) (q : List Pc) (ts : List Tr) (hp : PV p v) (h : m.kind = 7) (hq : PI q ts) : PI (p ++ m :: q) (v :: ts)
inductive PD : List Pc -> List Sc -> List Tr -> Prop
 | nil (c : Pc) (h : c.kind = 11) : PD [c] [] []
 | last (p : List Pc) (x : Sc) (v : Tr) (c : Pc) (hp : PP p x v) (h : c.kind = 11) : PD (p ++ [c]) [x] [v]
 | cons (p : List Pc) (x : Sc) (v : Tr) (m : Pc) (q : List Pc) (ks : List Sc) (ts : List Tr) (hp : PP p x v) (h : m.kind = 7) (hq : PD q ks ts) : PD (p ++ m :: q) (x :: ks) (v :: ts)
inductive PP : List Pc -> Sc -> Tr -> Prop
 | none (k c : Pc) (h : (B3 k).2 = 0) (hc : c.kind = 6) : PP [k, c] (B3 k).1 CL
 | some (k c : Pc) (p : List Pc) (v : Tr) (h : (B3 k).2 = 0) (hc : c.kind = 6) (hp : PV p v) : PP (k :: c :: p) (B3 k).1 v
end
theorem Gy {t : Pc} (h : (B3 t).2 = 0) : t.kind = 1 \/ t.kind = 2 := by
 unfold B3 at h
 by_cases h1 : t.kind = 1
 ·exact .inl h1
 ·rw [if_neg h1] at h
  by_cases h2 : t.kind = 2
  ·exact .inr h2
  ·rw [if_neg h2] at h; cases h
theorem Di {p : List Pc} {v : Tr} (h : PV p v) : p ≠ [] /\ (hk p = 1 \/ hk p = 2 \/ hk p = 4 \/ hk p = 3 \/ hk p = 8 \/ hk p = 10) := by
 cases h with
 | key t h => exact ⟨by simp, by rcases Gy h with k | k <;> simp [hk, k]⟩
 | ali t h => exact ⟨by simp, by simp [hk, h]⟩
 | nam t p v h _ _ _ => exact ⟨by simp, by simp [hk, h]⟩
 | lst t p ts h _ => exact ⟨by simp, by simp [hk, h]⟩
 | dic t p ks ts h _ => exact ⟨by simp, by simp [hk, h]⟩
theorem RL {p : List Pc} {ts : List Tr} (h : PI p ts) : p ≠ [] := by cases h <;> simp
theorem QO {p : List Pc} {ks : List Sc} {ts : List Tr} (h : PD p ks ts) : p ≠ [] := by cases h <;> simp
theorem QU {p : List Pc} {x : Sc} {v : Tr} (h : PP p x v) : p ≠ [] := by cases h <;> simp
def SV (n : Nat) : Prop := ∀ d l t rest, AZ n d l = .ok t rest -> ∃ p, l = p ++ rest /\ PV p t /\ d + Ak t <= 25
def SI (n : Nat) : Prop := ∀ d l acc t rest, Cz n d l acc = .ok t rest -> ∃ p ts, l = p ++ rest /\ PI p ts /\ t = BA (acc ++ ts) /\ (ts ≠ [] -> d + 1 + Ak.deepTs ts <= 25)
def SD (n : Nat) : Prop := ∀ d l ks0 ts0 t rest, BK n d l ks0 ts0 = .ok t rest -> ∃ p ks ts, l = p ++ rest /\ PD p ks ts /\ t = BJ (ks0 ++ ks) (ts0 ++ ts) /\ (ts ≠ [] -> d + 1 + Ak.deepTs ts <= 25)
theorem Cv {l : List Pc} {k : Int} (h : hk l = k) (hk0 : k ≠ 0) : ∃ c, c.kind = k /\ l = c :: l.tail := by
 cases l with
 | nil => exact absurd h.symm hk0
 | cons c r => exact ⟨c, h, rfl⟩
theorem Ul : ∀ n, SV n /\ SI n /\ SD n
 | 0 => ⟨fun d l t rest h => by simp [AZ] at h, fun d l acc t rest h => by simp [Cz] at h, fun d l ks ts t rest h => by simp [BK] at h⟩
 | n + 1 => by
  obtain ⟨hV, hI, hD⟩ := Ul n
  refine ⟨fun d l t rest h => ?_, fun d l acc t rest h => ?_, fun d l ks0 ts0 t rest h => ?_⟩
  ·unfold AZ at h
   split at h
   ·cases h
   ·rename_i hd
    cases l with
    | nil => cases h
    | cons a r =>
     simp only at h
     split at h
     ·rename_i h3
      split at h
      ·cases h
      ·rename_i hn
       cases hv : AZ n d r with
       | bad e => rw [hv] at h; cases h
       | ok v rest' =>
        rw [hv] at h
        injection h with h1 h2
        subst h1 h2
        obtain ⟨p, hp, hpv, hdp⟩ := hV _ _ _ _ hv
        have hne := (Di hpv).1
        rw [hp, Jy hne] at hn
        exact ⟨a :: p, by rw [hp]; rfl, .nam a p v h3 (fun k => hn (.inl k)) (fun k => hn (.inr k)) hpv, by rw [E5]; exact hdp⟩
     ·split at h
      ·rename_i h4
       injection h with h1 h2
       subst h1 h2
       exact ⟨[a], rfl, .ali a h4, by rw [M7]; omega⟩
      ·split at h
       ·rename_i h8
        obtain ⟨p, ts, hp, hpi, ht, hdp⟩ := hI _ _ _ _ _ h
        subst ht
        refine ⟨a :: p, by rw [hp]; rfl, .lst a p ts h8 hpi, ?_⟩
        rw [List.nil_append, G4]
        by_cases hts : ts = []
        ·subst hts; unfold Ak.deepTs; omega
        ·have := hdp hts; omega
       ·split at h
        ·rename_i h10
         obtain ⟨p, ks, ts, hp, hpi, ht, hdp⟩ := hD _ _ _ _ _ _ h
         subst ht
         refine ⟨a :: p, by rw [hp]; rfl, .dic a p ks ts h10 hpi, ?_⟩
         rw [List.nil_append, List.nil_append, GD]
         by_cases hts : ts = []
         ·subst hts; unfold Ak.deepTs; omega
         ·have := hdp hts; omega
        ·split at h
         ·rename_i hk
          injection h with h1 h2
          subst h1 h2
          exact ⟨[a], rfl, .key a hk, by rw [Eq]; omega⟩
         ·cases h
  ·unfold Cz at h
   split at h
   ·rename_i h9
    injection h with h1 h2
    subst h1 h2
    obtain ⟨c, hc, hl⟩ := Cv h9 (by decide)
    exact ⟨[c], [], by rw [hl]; rfl, .nil c hc, by rw [List.append_nil], fun k => absurd rfl k⟩
   ·cases hv : AZ n (d + 1) l with
    | bad e => rw [hv] at h; cases h
    | ok v rest' =>
     rw [hv] at h
     simp only at h
     obtain ⟨p, hp, hpv, hdp⟩ := hV _ _ _ _ hv
     split at h
     ·rename_i h7
      obtain ⟨m, hm, hr⟩ := Cv h7 (by decide)
      obtain ⟨q, ts, hq, hqi, ht, hdq⟩ := hI _ _ _ _ _ h
      refine ⟨p ++ m :: q, v :: ts, by rw [hp, hr, hq]; simp, .cons p v m q ts hpv hm hqi, by rw [ht, List.append_assoc]; rfl, fun _ => ?_⟩
      unfold Ak.deepTs
      by_cases hts : ts = []
      ·subst hts; unfold Ak.deepTs; omega
      ·have := hdq hts; omega
     ·split at h
      ·rename_i h9
       obtain ⟨c, hc, hr⟩ := Cv h9 (by decide)
       injection h with h1 h2
       subst h1 h2
       refine ⟨p ++ [c], [v], by rw [hp, hr]; simp, .last p v c hpv hc, rfl, fun _ => ?_⟩
       unfold Ak.deepTs Ak.deepTs
       omega
      ·cases h
  ·unfold BK at h
   split at h
   ·rename_i h11
    injection h with h1 h2
    subst h1 h2
    obtain ⟨c, hc, hl⟩ := Cv h11 (by decide)
    exact ⟨[c], [], [], by rw [hl]; rfl, .nil c hc, by rw [List.append_nil, List.append_nil], fun k => absurd rfl k⟩
   ·cases l with
    | nil => cases h
    | cons a r =>
     simp only at h
     split at h
     ·cases h
     ·rename_i hkk
      have hka : (B3 a).2 = 0 := Decidable.not_not.1 hkk
      split at h
      ·cases h
      ·rename_i h6
       have h6' : hk r = 6 := Decidable.not_not.1 h6
       obtain ⟨c, hc, hr⟩ := Cv h6' (by decide)
       split at h
       ·cases h
       ·rename_i hdd
        split at h
        ·rename_i h7
         obtain ⟨m, hm, hr2⟩ := Cv h7 (by decide)
         obtain ⟨q, ks, ts, hq, hqd, ht, hdq⟩ := hD _ _ _ _ _ _ h
         refine ⟨[a, c] ++ m :: q, (B3 a).1 :: ks, CL :: ts, by rw [hr, hr2, hq]; simp, .cons _ _ _ m q ks ts (.none a c hka hc) hm hqd, by rw [ht, List.append_assoc, List.append_assoc]; rfl, fun _ => ?_⟩
         unfold Ak.deepTs
         rw [DD]
         by_cases hts : ts = []
         ·subst hts; unfold Ak.deepTs; omega
         ·have := hdq hts; omega
        ·split at h
         ·rename_i h11
          obtain ⟨e, he, hr2⟩ := Cv h11 (by decide)
          injection h with h1 h2
          subst h1 h2
          refine ⟨[a, c] ++ [e], [(B3 a).1], [CL], by rw [hr, hr2]; simp, .last _ _ _ e (.none a c hka hc) he, rfl, fun _ => ?_⟩
          unfold Ak.deepTs Ak.deepTs
          rw [DD]; omega
         ·cases hv : AZ n (d + 1) r.tail with
          | bad e => rw [hv] at h; cases h
          | ok v rest' =>
           rw [hv] at h
           simp only at h
           obtain ⟨p, hp, hpv, hdp⟩ := hV _ _ _ _ hv
           split at h
           ·rename_i h7
            obtain ⟨m, hm, hr2⟩ := Cv h7 (by decide)
            obtain ⟨q, ks, ts, hq, hqd, ht, hdq⟩ := hD _ _ _ _ _ _ h
            refine ⟨(a :: c :: p) ++ m :: q, (B3 a).1 :: ks, v :: ts, by rw [hr, hp, hr2, hq]; simp, .cons _ _ _ m q ks ts (.some a c p v hka hc hpv) hm hqd, by rw [ht, List.append_assoc, List.append_assoc]; rfl, fun _ => ?_⟩
            unfold Ak.deepTs
            by_cases hts : ts = []
            ·subst hts; unfold Ak.deepTs; omega
            ·have := hdq hts; omega
           ·split at h
            ·rename_i h11
             obtain ⟨e, he, hr2⟩ := Cv h11 (by decide)
             injection h with h1 h2
             subst h1 h2
             refine ⟨(a :: c :: p) ++ [e], [(B3 a).1], [v], by rw [hr, hp, hr2]; simp, .last _ _ _ e (.some a c p v hka hc hpv) he, rfl, fun _ => ?_⟩
             unfold Ak.deepTs Ak.deepTs
             omega
            ·cases h
def CV (N : Nat) : Prop := ∀ p v, p.length <= N -> PV p v -> ∀ n d c, 2 * p.length <= n -> AZ n d (p ++ c) = if d + Ak v <= 25 then .ok v c else .bad 73
def CI (N : Nat) : Prop := ∀ p ts, p.length <= N -> PI p ts -> ∀ n d c acc, 2 * p.length + 1 <= n -> Cz n d (p ++ c) acc = if ts = [] \/ d + 1 + Ak.deepTs ts <= 25 then .ok (BA (acc ++ ts)) c else .bad 73
def CD (N : Nat) : Prop := ∀ p ks ts, p.length <= N -> PD p ks ts -> ∀ n d c ks0 ts0, 2 * p.length + 1 <= n -> BK n d (p ++ c) ks0 ts0 = if ts = [] \/ d + 1 + Ak.deepTs ts <= 25 then .ok (BJ (ks0 ++ ks) (ts0 ++ ts)) c else .bad 73
theorem AM (v : Tr) (ts : List Tr) : Ak.deepTs (v :: ts) = max (Ak v) (Ak.deepTs ts) := by rw [Ak.deepTs]
theorem AY : Ak.deepTs [] = 0 := by rw [Ak.deepTs]
theorem Dk (t : Pc) (r : List Pc) : hk (t :: r) = t.kind := rfl
theorem MV : ∀ N, CV N /\ CI N /\ CD N
 | 0 => ⟨fun p v h hp => absurd (List.eq_nil_of_length_eq_zero (by omega)) (Di hp).1, fun p v h hp => absurd (List.eq_nil_of_length_eq_zero (by omega)) (RL hp), fun p k v h hp => absurd (List.eq_nil_of_length_eq_zero (by omega)) (QO hp)⟩
 | N + 1 => by
  obtain ⟨hV, hI, hD⟩ := MV N
  refine ⟨fun p v hl hp n d c hn => ?_, fun p ts hl hp n d c acc hn => ?_, fun p ks ts hl hp n d c ks0 ts0 hn => ?_⟩
  ·cases n with
   | zero => exact absurd (List.eq_nil_of_length_eq_zero (by omega)) (Di hp).1
   | succ n =>
    have hpos := Ei v
    by_cases hd : 24 < d
    ·unfold AZ; rw [if_pos hd, if_neg (by omega)]
    ·cases hp with
     | key t h =>
      have hkk := Gy h
      show AZ (n + 1) d (t :: c) = _
      unfold AZ
      rw [if_neg hd, Eq, if_pos (by omega)]
      simp only
      rw [if_neg (by omega), if_neg (by omega), if_neg (by omega), if_neg (by omega), if_pos h]
     | ali t h =>
      show AZ (n + 1) d (t :: c) = _
      unfold AZ
      rw [if_neg hd, M7, if_pos (by omega)]
      simp only
      rw [if_neg (by omega), if_pos h]
     | nam t p v h h2 h3 hp =>
      have hne := (Di hp).1
      simp only [List.length_cons] at hl hn
      show AZ (n + 1) d (t :: (p ++ c)) = _
      have ih := hV p v (by omega) hp n d c (by omega)
      unfold AZ
      rw [if_neg hd]
      simp only
      rw [if_pos h, Jy hne, if_neg (by omega), ih, E5]
      by_cases hdd : d + Ak v <= 25
      ·rw [if_pos hdd, if_pos hdd]
      ·rw [if_neg hdd, if_neg hdd]
     | lst t p ts h hp =>
      simp only [List.length_cons] at hl hn
      show AZ (n + 1) d (t :: (p ++ c)) = _
      have ih := hI p ts (by omega) hp n d c [] (by omega)
      unfold AZ
      rw [if_neg hd]
      simp only
      rw [if_neg (by omega), if_neg (by omega), if_pos h, ih, G4, List.nil_append]
      by_cases hts : ts = []
      ·rw [if_pos (.inl hts)]; subst hts; rw [AY, if_pos (by omega)]
      ·by_cases hdd : d + 1 + Ak.deepTs ts <= 25
       ·rw [if_pos (.inr hdd), if_pos (by omega)]
       ·rw [if_neg (fun k => k.elim hts hdd), if_neg (by omega)]
     | dic t p ks ts h hp =>
      simp only [List.length_cons] at hl hn
      show AZ (n + 1) d (t :: (p ++ c)) = _
      have ih := hD p ks ts (by omega) hp n d c [] [] (by omega)
      unfold AZ
      rw [if_neg hd]
      simp only
      rw [if_neg (by omega), if_neg (by omega), if_neg (by omega), if_pos h, ih, GD, List.nil_append, List.nil_append]
      by_cases hts : ts = []
      ·rw [if_pos (.inl hts)]; subst hts; rw [AY, if_pos (by omega)]
      ·by_cases hdd : d + 1 + Ak.deepTs ts <= 25
       ·rw [if_pos (.inr hdd), if_pos (by omega)]
       ·rw [if_neg (fun k => k.elim hts hdd), if_neg (by omega)]
  ·cases n with
   | zero => omega
   | succ n =>
    cases hp with
    | nil e h =>
     show Cz (n + 1) d (e :: c) acc = _
     unfold Cz
     rw [Dk, if_pos h, if_pos (.inl rfl), List.append_nil]; rfl
    | last p v e hp h =>
     simp only [List.length_append, List.length_cons, List.length_nil] at hl hn
     have hh := Di hp
     have ih := hV p v (by omega) hp n (d + 1) (e :: c) (by omega)
     rw [List.append_assoc, List.singleton_append]
     unfold Cz
     rw [Jy hh.1, if_neg (by omega), ih, AM, AY]
     by_cases hdd : d + 1 + Ak v <= 25
     ·rw [if_pos hdd, if_pos (.inr (by omega))]
      simp only
      rw [Dk, if_neg (by omega), if_pos h]; rfl
     ·rw [if_neg hdd, if_neg (fun k => k.elim (fun k => by cases k) (fun k => by omega))]
    | cons p v m q ts hp h hq =>
     simp only [List.length_append, List.length_cons] at hl hn
     have hh := Di hp
     have ih := hV p v (by omega) hp n (d + 1) (m :: (q ++ c)) (by omega)
     have ih2 := hI q ts (by omega) hq n d c (acc ++ [v]) (by omega)
     rw [List.append_assoc, List.cons_append]
     unfold Cz
     rw [Jy hh.1, if_neg (by omega), ih, AM]
     by_cases hdd : d + 1 + Ak v <= 25
     ·rw [if_pos hdd]
      simp only
      rw [Dk, if_pos h, List.tail_cons, ih2, List.append_assoc, List.singleton_append]
      by_cases hts : ts = []
      ·subst hts; rw [if_pos (.inl rfl), AY, if_pos (.inr (by omega))]
      ·by_cases hd2 : d + 1 + Ak.deepTs ts <= 25
       ·rw [if_pos (.inr hd2), if_pos (.inr (by omega))]
       ·rw [if_neg (fun k => k.elim hts hd2), if_neg (fun k => k.elim (fun k => by cases k) (fun k => by omega))]
     ·rw [if_neg hdd, if_neg (fun k => k.elim (fun k => by cases k) (fun k => by omega))]
  ·
   have pair : ∀ (p : List Pc) (x : Sc) (v : Tr), p.length <= N -> PP p x v -> ∀ n e, 2 * p.length + 1 <= n -> ∀ (hke : hk e = 7 \/ hk e = 11) (ks0 : List Sc) (ts0 : List Tr),
     BK (n + 1) d (p ++ e) ks0 ts0 = if d + 1 + Ak v <= 25 then (if hk e = 7 then BK n d e.tail (ks0 ++ [x]) (ts0 ++ [v]) else .ok (BJ (ks0 ++ [x]) (ts0 ++ [v])) e.tail) else .bad 73 := by
    intro p x v hpl hpp n e hn hke ks0 ts0
    cases hpp with
    | none k c2 h hc =>
     have hkk := Gy h
     show BK (n + 1) d (k :: c2 :: e) ks0 ts0 = _
     rw [BK]
     rw [Dk, if_neg (by omega)]
     try simp only
     rw [if_neg (Decidable.not_not.2 h), Dk, if_neg (Decidable.not_not.2 hc), List.tail_cons, DD]
     by_cases hdd : 24 < d + 1
     ·rw [if_pos hdd, if_neg (by omega)]
     ·rw [if_neg hdd, if_pos (show d + 1 + 1 <= 25 by omega)]
      by_cases h7 : hk e = 7
      ·rw [if_pos h7, if_pos h7]
      ·rw [if_neg h7, if_neg h7, if_pos (by omega)]
    | some k c2 p v h hc hp =>
     have hkk := Gy h
     have hh := Di hp
     have hpos := Ei v
     simp only [List.length_cons] at hpl hn
     have ih := hV p v (by omega) hp n (d + 1) e (by omega)
     show BK (n + 1) d (k :: c2 :: (p ++ e)) ks0 ts0 = _
     rw [BK]
     rw [Dk, if_neg (by omega)]
     try simp only
     rw [if_neg (Decidable.not_not.2 h), Dk, if_neg (Decidable.not_not.2 hc), List.tail_cons, Jy hh.1]
     by_cases hdd : 24 < d + 1
     ·rw [if_pos hdd, if_neg (by omega)]
     ·rw [if_neg hdd, if_neg (by omega), if_neg (by omega), ih]
      by_cases hd2 : d + 1 + Ak v <= 25
      ·rw [if_pos hd2, if_pos hd2]
       simp only
       by_cases h7 : hk e = 7
       ·rw [if_pos h7, if_pos h7]
       ·rw [if_neg h7, if_neg h7, if_pos (by omega)]
      ·rw [if_neg hd2, if_neg hd2]
   cases n with
   | zero => omega
   | succ n =>
    cases hp with
    | nil e h =>
     show BK (n + 1) d (e :: c) ks0 ts0 = _
     unfold BK
     rw [Dk, if_pos h, if_pos (.inl rfl), List.append_nil, List.append_nil]; rfl
    | last p x v e hp h =>
     simp only [List.length_append, List.length_cons, List.length_nil] at hl hn
     rw [List.append_assoc, List.singleton_append, pair p x v (by omega) hp n (e :: c) (by omega) (.inr h), Dk, AM, AY]
     by_cases hdd : d + 1 + Ak v <= 25
     ·rw [if_pos hdd, if_neg (by omega), if_pos (.inr (by omega))]; rfl
     ·rw [if_neg hdd, if_neg (fun k => k.elim (fun k => by cases k) (fun k => by omega))]
    | cons p x v m q ks ts hp h hq =>
     simp only [List.length_append, List.length_cons] at hl hn
     have ih2 := hD q ks ts (by omega) hq n d c (ks0 ++ [x]) (ts0 ++ [v]) (by omega)
     rw [List.append_assoc, List.cons_append, pair p x v (by omega) hp n (m :: (q ++ c)) (by omega) (.inl h), Dk, AM]
     by_cases hdd : d + 1 + Ak v <= 25
     ·rw [if_pos hdd, if_pos h, List.tail_cons, ih2, List.append_assoc, List.append_assoc, List.singleton_append, List.singleton_append]
      by_cases hts : ts = []
      ·subst hts; rw [if_pos (.inl rfl), AY, if_pos (.inr (by omega))]
      ·by_cases hd2 : d + 1 + Ak.deepTs ts <= 25
       ·rw [if_pos (.inr hd2), if_pos (.inr (by omega))]
       ·rw [if_neg (fun k => k.elim hts hd2), if_neg (fun k => k.elim (fun k => by cases k) (fun k => by omega))]
     ·rw [if_neg hdd, if_neg (fun k => k.elim (fun k => by cases k) (fun k => by omega))]
theorem U1 {p : List Pc} {v : Tr} (h : PV p v) (n d : Nat) (c : List Pc) (hn : 2 * p.length <= n) : AZ n d (p ++ c) = if d + Ak v <= 25 then .ok v c else .bad 73 :=
 (MV p.length).1 p v Nr h n d c hn
theorem Sj {n d : Nat} {l : List Pc} {t : Tr} {rest : List Pc} (h : AZ n d l = .ok t rest) : ∃ p, l = p ++ rest /\ PV p t /\ d + Ak t <= 25 := (Ul n).1 d l t rest h
def L4 (l : List Pc) : FR := AZ (2 * l.length + 2) 1 l
def AI (l : List Pc) : Tr × Int := match L4 l with
 | .ok t [] => (t, 0)
 | .ok _ (_ :: _) => (CL, 91)
 | .bad e => (CL, e)
theorem O3 : ∀ n, (∀ d l e, AZ n d l = .bad e -> e ≠ 0) /\ (∀ d l acc e, Cz n d l acc = .bad e -> e ≠ 0) /\ (∀ d l ks ts e, BK n d l ks ts = .bad e -> e ≠ 0)
 | 0 => ⟨fun d l e h => by rw [AZ] at h; injection h with h; omega, fun d l acc e h => by rw [Cz] at h; injection h with h; omega, fun d l ks ts e h => by rw [BK] at h; injection h with h; omega⟩
 | n + 1 => by
  obtain ⟨hV, hI, hD⟩ := O3 n
  refine ⟨fun d l e h => ?_, fun d l acc e h => ?_, fun d l ks ts e h => ?_⟩
  ·unfold AZ at h
   split at h
   ·injection h with h; omega
   ·cases l with
    | nil => injection h with h; omega
    | cons t r =>
     try simp only at h
     split at h
     ·split at h
      ·injection h with h; omega
      ·cases hv : AZ n d r with
       | bad e2 => rw [hv] at h; injection h with h; subst h; exact hV _ _ _ hv
       | ok v rest => rw [hv] at h; cases h
     ·split at h
      ·cases h
      ·split at h
       ·exact hI _ _ _ _ h
       ·split at h
        ·exact hD _ _ _ _ _ h
        ·split at h
         ·cases h
         ·injection h with h; subst h; assumption
  ·unfold Cz at h
   split at h
   ·cases h
   ·cases hv : AZ n (d + 1) l with
    | bad e2 => rw [hv] at h; injection h with h; subst h; exact hV _ _ _ hv
    | ok v rest =>
     rw [hv] at h
     try simp only at h
     split at h
     ·exact hI _ _ _ _ h
     ·split at h
      ·cases h
      ·injection h with h; omega
  ·unfold BK at h
   split at h
   ·cases h
   ·cases l with
    | nil => injection h with h; omega
    | cons t r =>
     try simp only at h
     split at h
     ·injection h with h; subst h; assumption
     ·split at h
      ·injection h with h; omega
      ·split at h
       ·injection h with h; omega
       ·split at h
        ·exact hD _ _ _ _ _ h
        ·split at h
         ·cases h
         ·cases hv : AZ n (d + 1) r.tail with
          | bad e2 => rw [hv] at h; injection h with h; subst h; exact hV _ _ _ hv
          | ok v rest =>
           rw [hv] at h
           try simp only at h
           split at h
           ·exact hD _ _ _ _ _ h
           ·split at h
            ·cases h
            ·injection h with h; omega
theorem My {l : List Pc} {t : Tr} (h : AI l = (t, 0)) : PV l t /\ Ak t <= 24 := by
 unfold AI at h
 cases hv : L4 l with
 | bad e =>
  rw [hv] at h
  have he : e = 0 := congrArg Prod.snd h
  exact absurd he ((O3 _).1 _ _ _ hv)
 | ok v rest =>
  rw [hv] at h
  cases rest with
  | cons a r => have he : (91 : Int) = 0 := congrArg Prod.snd h; omega
  | nil =>
   obtain ⟨p, hp, hpv, hd⟩ := Sj hv
   rw [List.append_nil] at hp
   have : v = t := congrArg Prod.fst h
   subst this hp
   exact ⟨hpv, by omega⟩
theorem MR {l : List Pc} {t : Tr} (h : PV l t) : AI l = if Ak t <= 24 then (t, 0) else (CL, 73) := by
 have := U1 h (2 * l.length + 2) 1 [] (by omega)
 rw [List.append_nil] at this
 unfold AI L4
 rw [this]
 by_cases hd : Ak t <= 24
 ·rw [if_pos (by omega), if_pos hd]
 ·rw [if_neg (by omega), if_neg hd]
end
section
def Kt (x : Sc) : Int × Int × List UInt8 := (x.kind, x.num, x.str.data.toList)
theorem Ph {x y : Sc} (h : Kt x = Kt y) : x = y := by
 obtain ⟨k, n, s⟩ := x
 obtain ⟨k2, n2, s2⟩ := y
 simp only [Kt, Prod.mk.injEq] at h
 obtain ⟨rfl, rfl, h⟩ := h
 have : s = s2 := by
  cases s; cases s2
  simp only at h
  congr 1
  exact Array.toList_inj.1 h
 rw [this]
end
section
instance : DecidableEq Sc := fun x y => decidable_of_iff (Kt x = Kt y) ⟨Ph, fun h => by rw [h]⟩
instance : Inhabited Sc := ⟨CF⟩
theorem U8 (k1 n1 k2 n2 : Int) (s1 s2 : ByteArray) (w : World) :
  (binOp .eql 26 (.agg #[.int .i64 k1, .int .i64 n1, .string s1]) (.agg #[.int .i64 k2, .int .i64 n2, .string s2])).run Tryz.prog w = .ok (.bool (k1 == k2 && (n1 == n2 && s1.toList == s2.toList))) w := by
 rw [run_eql_struct]
 cases h1 : (k1 == k2) <;> cases h2 : (n1 == n2) <;> cases h3 : (s1.toList == s2.toList) <;> go_simp
theorem Ve (k1 n1 k2 n2 : Int) (s1 s2 : ByteArray) (w : World) :
  (binOp .neq 26 (.agg #[.int .i64 k1, .int .i64 n1, .string s1]) (.agg #[.int .i64 k2, .int .i64 n2, .string s2])).run Tryz.prog w = .ok (.bool (!(k1 == k2 && (n1 == n2 && s1.toList == s2.toList)))) w := by
 rw [run_neq_struct]
 cases h1 : (k1 == k2) <;> cases h2 : (n1 == n2) <;> cases h3 : (s1.toList == s2.toList) <;> go_simp
theorem VK (x y : Sc) : ((x.kind : Int) == (y.kind : Int) && ((x.num : Int) == (y.num : Int) && x.str.toList == y.str.toList)) = decide (x = y) := by
 rw [Lib.toList_data, Lib.toList_data, Bool.eq_iff_iff]
 simp only [Bool.and_eq_true, beq_iff_eq, decide_eq_true_eq]
 constructor
 ·rintro ⟨h1, h2, h3⟩
  exact Ph (by simp [Kt, h1, h2, h3])
 ·rintro rfl; exact ⟨rfl, rfl, rfl⟩
def A6 (x : Sc) : List Value := [.int .i64 x.kind, .int .i64 x.num, .string x.str]
def Cy (w : World) (v : Value) (ts : List Sc) : Prop :=
 ∃ (A : Option Addr) (cap : Nat), v = .slice A ts.length cap /\ ∀ k, k < ts.length -> ∃ (b o : Nat), A = some ⟨b, o, none⟩ /\ b < w.heap.size ∧
  w.cell? ⟨b, o + k * 3, none⟩ = some (.int .i64 (ts.getD k CF).kind) /\ w.cell? ⟨b, o + k * 3 + 1, none⟩ = some (.int .i64 (ts.getD k CF).num) /\ w.cell? ⟨b, o + k * 3 + 2, none⟩ = some (.string (ts.getD k CF).str)
theorem Cy.nil (w : World) : Cy w (.slice none 0 0) [] := ⟨none, 0, rfl, fun k h => by simp at h⟩
theorem Cy.below {w w' : World} {v : Value} {ts : List Sc} (h : Cy w v ts) (hb : Below w.heap.size w w') : Cy w' v ts := by
 obtain ⟨A, cap, hv, hc⟩ := h
 refine ⟨A, cap, hv, fun k hk => ?_⟩
 obtain ⟨b, o, ha, hlt, h0, h1, h2⟩ := hc k hk
 exact ⟨b, o, ha, Nat.lt_of_lt_of_le hlt hb.size, (hb.cell (p := ⟨b, o + k * 3, none⟩) hlt).trans h0, (hb.cell (p := ⟨b, o + k * 3 + 1, none⟩) hlt).trans h1, (hb.cell (p := ⟨b, o + k * 3 + 2, none⟩) hlt).trans h2⟩
theorem RR {xs ys : List Sc} {k : Nat} (hx : k < xs.length) (hy : k < ys.length) (h : xs.take k = ys.take k) :
  (xs.getD k CF = ys.getD k CF -> xs.take (k + 1) = ys.take (k + 1)) /\ (¬ xs.getD k CF = ys.getD k CF -> ¬ xs = ys) := by
 refine ⟨fun e => ?_, fun e e2 => e (by rw [e2])⟩
 rw [List.take_succ_eq_append_getElem hx, List.take_succ_eq_append_getElem hy, h]
 simp only [List.getD, List.getElem?_eq_getElem hx, List.getElem?_eq_getElem hy, Option.getD_some] at e
 rw [e]
end
end Go.Proofs.YtaogfdffgdglkaaGreatDoor
