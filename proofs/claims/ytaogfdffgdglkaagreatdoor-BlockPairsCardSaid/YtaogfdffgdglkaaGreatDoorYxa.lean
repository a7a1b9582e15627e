/- What is proved: a part of the walk of the program and of its plain laws; no condition beside those that each theorem names. -/
import Derived.Test.YtaogfdffgdglkaaGreatDoorYz
import Derived.Test.YtaogfdffgdglkaaGreatDoorYa
import Derived.Laws.AppendOwnNone
namespace Go.Proofs.YtaogfdffgdglkaaGreatDoor
open Go Go.RowKit Go.Lib
set_option linter.unusedSimpArgs false
set_option linter.unusedVariables false
section
theorem NS (ts : List AV) : (AP ts).length = ts.length := by unfold AP; simp
def VZ (v : Value) (n : Nat) : Prop := ∃ A c, v = .slice A n c /\ n <= c
def Tr.nm : Tr -> ByteArray
 | .mk _ n _ _ _ => n
theorem Ao.parts {w : World} {S : Nat -> Prop} {t : Tr} {k xk xn : Int} {nm xs : ByteArray} {KA A : Option Addr} {kl kc l c : Nat} (h : Ao w S t (.agg #[.int .i64 k, .string nm, .int .i64 xk, .int .i64 xn, .string xs, .slice KA kl kc, .slice A l c])) :
  k = t.kind /\ l = t.kids.length /\ nm = t.nm := by
 cases t with
 | mk k' nm' x ks ts =>
  rw [Ao] at h
  obtain ⟨kv, A', cap, e, _⟩ := h
  simp at e
  exact ⟨e.1, e.2.2.2.2.2.2.2.1, e.2.1⟩
theorem Ao.any {w : World} {S : Nat -> Prop} {t : Tr} {v : Value} (h : Ao w S t v) : Ao w (fun _ => True) t v := Au (fun _ _ _ => trivial) t v h
end
section
structure En where
 no : Int
 col : Int
 l : List AV
def EK : AV := ⟨0, [], 0⟩
def GT (l : List AV) (i : Nat) : Int := (l.getD i EK).kind
inductive Bg where
 | dash
 | key
 | name (s : List UInt8)
 | plain
deriving DecidableEq
def Bp (l : List AV) : Bg :=
 if GT l 0 = 5 then .dash else if (GT l 0 = 1 \/ GT l 0 = 2) /\ GT l 1 = 6 then .key else if GT l 0 = 3 /\ l.length = 1 then .name (l.getD 0 EK).str else .plain
inductive BR where
 | ok (t : Tr) (rest : List En)
 | bad (no e : Int)
 | out
def BR.bind : BR -> (Tr -> List En -> BR) -> BR
 | .ok t rest, f => f t rest
 | .bad no e, _ => .bad no e
 | .out, _ => .out
def Bu (no : Int) (l : List AV) (d : Nat) (rest : List En) : BR :=
 if 24 < d then .bad no 73 else if (AI (AP l)).2 ≠ 0 then .bad no (AI (AP l)).2 else if 24 < Ak (AI (AP l)).1 + d - 1 then .bad no 73 else .ok (AI (AP l)).1 rest
def D7 (no : Int) (s : List UInt8) : BR -> BR
 | .ok t rest => if t.kind = 3 \/ t.nm ≠ ⟨#[]⟩ then .bad no 93 else .ok (t.named s) rest
 | b => b
def CR (col : Int) (t : Tr) (x : En) (r : List En) : BR :=
 if x.col < col then .ok t (x :: r) else if col < x.col then .bad x.no 92 else .bad x.no 93
def Co (l : List AV) : Sc × Int := B3 ⟨(l.getD 0 EK).kind, (l.getD 0 EK).str⟩
def Ca (x : En) : En := ⟨x.no, x.col + (x.l.getD 1 EK).at_ - (x.l.getD 0 EK).at_, x.l.tail⟩
mutual
def A8 : Nat -> Int -> Nat -> List En -> BR
 | 0, _, _, _ => .out
 | n + 1, m, d, l => match l with
  | [] => .out
  | x :: r => if 24 < d then .bad x.no 73 else match Bp x.l with
   | .dash => Bn n x.col d (x :: r) []
   | .key => AD n x.col d (x :: r) [] []
   | .name s => D7 x.no s (Ap n x.no m d r)
   | .plain => Bu x.no x.l d r
def Ap : Nat -> Int -> Int -> Nat -> List En -> BR
 | 0, _, _, _, _ => .out
 | n + 1, no, m, d, l => match l with
  | [] => if 24 < d then .bad no 73 else .ok CL []
  | x :: r => if m < x.col then A8 n m d (x :: r) else if 24 < d then .bad no 73 else .ok CL (x :: r)
def AQ : Nat -> Nat -> En -> List En -> BR
 | 0, _, _, _ => .out
 | n + 1, d, x, r => if x.l.length = 1 then Ap n x.no x.col d r else A8 n x.col d (Ca x :: r)
def Bn : Nat -> Int -> Nat -> List En -> List Tr -> BR
 | 0, _, _, _, _ => .out
 | n + 1, col, d, l, acc => match l with
  | [] => .ok (BA acc) []
  | x :: r => if x.col = col /\ Bp x.l = .dash then (AQ n (d + 1) x r).bind (fun t rest => Bn n col d rest (acc ++ [t])) else CR col (BA acc) x r
def Bl : Nat -> Nat -> En -> List En -> BR
 | 0, _, _, _ => .out
 | n + 1, d, x, r => match Bp (x.l.drop 2) with
  | .name s => D7 x.no s (Ap n x.no x.col d r)
  | _ => if x.l.length = 2 then Ap n x.no x.col d r else Bu x.no (x.l.drop 2) d r
def AD : Nat -> Int -> Nat -> List En -> List Sc -> List Tr -> BR
 | 0, _, _, _, _, _ => .out
 | n + 1, col, d, l, ks, ts => match l with
  | [] => .ok (BJ ks ts) []
  | x :: r => if x.col = col /\ Bp x.l = .key then (if (Co x.l).2 ≠ 0 then .bad x.no (Co x.l).2 else (Bl n (d + 1) x r).bind (fun t rest => AD n col d rest (ks ++ [(Co x.l).1]) (ts ++ [t]))) else CR col (BJ ks ts) x r
end
def DR (k j : Int) (x : En) : En := ⟨x.no + j, x.col + k, x.l⟩
def LU (k j : Int) : BR -> BR
 | .ok t rest => .ok t (rest.map (DR k j))
 | .bad no e => .bad (no + j) e
 | .out => .out
theorem OJ (k j no : Int) (l : List AV) (d : Nat) (rest : List En) : Bu (no + j) l d (rest.map (DR k j)) = LU k j (Bu no l d rest) := by
 unfold Bu
 repeat (split; · rfl)
 rfl
theorem Pk (k j no : Int) (s : List UInt8) (b : BR) : D7 (no + j) s (LU k j b) = LU k j (D7 no s b) := by
 cases b with
 | ok t rest => unfold LU D7; simp only; split <;> rfl
 | bad n e => rfl
 | out => rfl
theorem M2 (k j col : Int) (t : Tr) (x : En) (r : List En) : CR (col + k) t (DR k j x) (r.map (DR k j)) = LU k j (CR col t x r) := by
 unfold CR DR
 simp only
 by_cases h1 : x.col < col
 ·rw [if_pos h1, if_pos (by omega)]; rfl
 ·rw [if_neg h1, if_neg (by omega)]
  by_cases h2 : col < x.col
  ·rw [if_pos h2, if_pos (by omega)]; rfl
  ·rw [if_neg h2, if_neg (by omega)]; rfl
theorem QT (k j : Int) (x : En) : Ca (DR k j x) = DR k j (Ca x) := by
 unfold Ca DR
 simp only [En.mk.injEq, true_and, and_true]
 omega
theorem S6 (k j : Int) : ∀ n, (∀ m d l, A8 n (m + k) d (l.map (DR k j)) = LU k j (A8 n m d l)) /\ (∀ no m d l, Ap n (no + j) (m + k) d (l.map (DR k j)) = LU k j (Ap n no m d l)) ∧
  (∀ d x r, AQ n d (DR k j x) (r.map (DR k j)) = LU k j (AQ n d x r)) /\ (∀ col d l acc, Bn n (col + k) d (l.map (DR k j)) acc = LU k j (Bn n col d l acc)) ∧
  (∀ d x r, Bl n d (DR k j x) (r.map (DR k j)) = LU k j (Bl n d x r)) /\ (∀ col d l ks ts, AD n (col + k) d (l.map (DR k j)) ks ts = LU k j (AD n col d l ks ts))
 | 0 => by refine ⟨?_, ?_, ?_, ?_, ?_, ?_⟩ <;> intros <;> simp only [A8, Ap, AQ, Bn, Bl, AD, LU]
 | n + 1 => by
  obtain ⟨hN, hB, hI, hS, hP, hD⟩ := S6 k j n
  refine ⟨fun m d l => ?_, fun no m d l => ?_, fun d x r => ?_, fun col d l acc => ?_, fun d x r => ?_, fun col d l ks ts => ?_⟩
  ·cases l with
   | nil => simp only [List.map_nil, A8, LU]
   | cons x r =>
    rw [List.map_cons, A8, A8]
    simp only [show (DR k j x).l = x.l from rfl, show (DR k j x).no = x.no + j from rfl, show (DR k j x).col = x.col + k from rfl]
    by_cases hd : 24 < d
    ·rw [if_pos hd, if_pos hd]; rfl
    ·rw [if_neg hd, if_neg hd]
     cases Bp x.l with
     | dash => exact hS _ _ (x :: r) _
     | key => exact hD _ _ (x :: r) _ _
     | name s => simp only; rw [hB, Pk]
     | plain => exact OJ _ _ _ _ _ _
  ·cases l with
   | nil => rw [List.map_nil, Ap, Ap]; split <;> rfl
   | cons x r =>
    rw [List.map_cons, Ap, Ap]
    simp only [show (DR k j x).col = x.col + k from rfl]
    by_cases h1 : m < x.col
    ·rw [if_pos h1, if_pos (by omega)]; exact hN m d (x :: r)
    ·rw [if_neg h1, if_neg (by omega)]
     by_cases hd : 24 < d
     ·rw [if_pos hd, if_pos hd]; rfl
     ·rw [if_neg hd, if_neg hd]; rfl
  ·rw [AQ, AQ]
   simp only [show (DR k j x).l = x.l from rfl, show (DR k j x).no = x.no + j from rfl, show (DR k j x).col = x.col + k from rfl, QT]
   split
   ·exact hB _ _ _ _
   ·exact hN _ d (Ca x :: r)
  ·cases l with
   | nil => simp only [List.map_nil, Bn, LU]
   | cons x r =>
    rw [List.map_cons, Bn, Bn]
    simp only [show (DR k j x).l = x.l from rfl, show (DR k j x).col = x.col + k from rfl]
    by_cases h1 : x.col = col /\ Bp x.l = .dash
    ·rw [if_pos h1, if_pos ⟨by omega, h1.2⟩, hI]
     cases AQ n (d + 1) x r with
     | ok t rest => exact hS _ _ _ _
     | bad no e => rfl
     | out => rfl
    ·rw [if_neg h1, if_neg (fun h => h1 ⟨by omega, h.2⟩)]
     exact M2 _ _ _ _ _ _
  ·rw [Bl, Bl]
   simp only [show (DR k j x).l = x.l from rfl, show (DR k j x).no = x.no + j from rfl, show (DR k j x).col = x.col + k from rfl]
   cases Bp (x.l.drop 2) with
   | name s => simp only; rw [hB, Pk]
   | _ =>
    simp only
    split
    ·exact hB _ _ _ _
    ·exact OJ _ _ _ _ _ _
  ·cases l with
   | nil => simp only [List.map_nil, AD, LU]
   | cons x r =>
    rw [List.map_cons, AD, AD]
    simp only [show (DR k j x).l = x.l from rfl, show (DR k j x).col = x.col + k from rfl, show (DR k j x).no = x.no + j from rfl]
    by_cases h1 : x.col = col /\ Bp x.l = .key
    ·rw [if_pos h1, if_pos ⟨by omega, h1.2⟩]
     split
     ·rfl
     ·rw [hP]
      cases Bl n (d + 1) x r with
      | ok t rest => exact hD _ _ _ _ _
      | bad no e => rfl
      | out => rfl
    ·rw [if_neg h1, if_neg (fun h => h1 ⟨by omega, h.2⟩)]
     exact M2 _ _ _ _ _ _
theorem R3 {m m' : Int} : ∀ n, (∀ d l, (∀ x ∈ l, m < x.col ↔ m' < x.col) -> A8 n m d l = A8 n m' d l) /\ (∀ no d l, (∀ x ∈ l, m < x.col ↔ m' < x.col) -> Ap n no m d l = Ap n no m' d l)
 | 0 => by refine ⟨?_, ?_⟩ <;> intros <;> simp only [A8, Ap]
 | n + 1 => by
  obtain ⟨hN, hB⟩ := R3 (m := m) (m' := m') n
  refine ⟨fun d l h => ?_, fun no d l h => ?_⟩
  ·cases l with
   | nil => simp only [A8]
   | cons x r =>
    rw [A8, A8]
    split
    ·rfl
    ·cases Bp x.l with
     | name s => simp only; rw [hB _ _ _ (fun y hy => h y (List.mem_cons_of_mem _ hy))]
     | _ => rfl
  ·cases l with
   | nil => simp only [Ap]
   | cons x r =>
    rw [Ap, Ap]
    by_cases h1 : m < x.col
    ·rw [if_pos h1, if_pos ((h x List.mem_cons_self).1 h1)]; exact hN _ _ h
    ·rw [if_neg h1, if_neg (fun h2 => h1 ((h x List.mem_cons_self).2 h2))]
theorem FD {no : Int} {l : List AV} {d : Nat} {r rest : List En} {t : Tr} (h : Bu no l d r = .ok t rest) : rest = r /\ d + Ak t <= 25 /\ t = (AI (AP l)).1 /\ (AI (AP l)).2 = 0 := by
 unfold Bu at h
 split at h
 ·cases h
 ·split at h
  ·cases h
  ·split at h
   ·cases h
   ·injection h with h1 h2
    subst h1 h2
    have := Ei (AI (AP l)).1
    exact ⟨rfl, by omega, rfl, Decidable.not_not.1 ‹_›⟩
theorem Is {no : Int} {s : List UInt8} {b : BR} {t : Tr} {rest : List En} (h : D7 no s b = .ok t rest) : ∃ t', b = .ok t' rest /\ t = t'.named s /\ ¬ (t'.kind = 3 \/ t'.nm ≠ ⟨#[]⟩) := by
 cases b with
 | ok t' rest' =>
  unfold D7 at h
  simp only at h
  split at h
  ·cases h
  ·injection h with h1 h2
   subst h1 h2
   exact ⟨t', rfl, rfl, ‹_›⟩
 | bad n e => cases h
 | out => cases h
theorem GN {col : Int} {t u : Tr} {x : En} {r rest : List En} (h : CR col t x r = .ok u rest) : u = t /\ rest = x :: r /\ x.col < col := by
 unfold CR at h
 split at h
 ·injection h with h1 h2; exact ⟨h1.symm, h2.symm, ‹_›⟩
 ·split at h <;> cases h
end
section
theorem suffix : ∀ n, (∀ m d x r t rest, A8 n m d (x :: r) = .ok t rest -> rest <:+ r) /\ (∀ no m d l t rest, Ap n no m d l = .ok t rest -> rest <:+ l) ∧
  (∀ d x r t rest, AQ n d x r = .ok t rest -> rest <:+ r) /\ (∀ col d l acc t rest, Bn n col d l acc = .ok t rest -> rest <:+ l) ∧
  (∀ d x r acc t rest, Bp x.l = .dash -> Bn n x.col d (x :: r) acc = .ok t rest -> rest <:+ r) ∧
  (∀ d x r t rest, Bl n d x r = .ok t rest -> rest <:+ r) /\ (∀ col d l ks ts t rest, AD n col d l ks ts = .ok t rest -> rest <:+ l) ∧
  (∀ d x r ks ts t rest, Bp x.l = .key -> AD n x.col d (x :: r) ks ts = .ok t rest -> rest <:+ r)
 | 0 => by
  refine ⟨?_, ?_, ?_, ?_, ?_, ?_, ?_, ?_⟩ <;> intros <;> rename_i h <;> simp [A8, Ap, AQ, Bn, Bl, AD] at h
 | n + 1 => by
  obtain ⟨hN, hB, hI, hS, hS2, hP, hD, hD2⟩ := suffix n
  have sq : ∀ d x r acc t rest, (AQ n (d + 1) x r).bind (fun t rest => Bn n x.col d rest (acc ++ [t])) = .ok t rest -> rest <:+ r := fun d x r acc t rest h => by
   cases hi : AQ n (d + 1) x r with
   | ok t1 r1 => rw [hi] at h; simp only [BR.bind] at h; exact (hS _ _ _ _ _ _ h).trans (hI _ _ _ _ _ hi)
   | bad no e => rw [hi] at h; simp only [BR.bind] at h; cases h
   | out => rw [hi] at h; simp only [BR.bind] at h; cases h
  have dq : ∀ d x r ks ts t rest, (if (Co x.l).2 ≠ 0 then BR.bad x.no (Co x.l).2 else (Bl n (d + 1) x r).bind (fun t rest => AD n x.col d rest (ks ++ [(Co x.l).1]) (ts ++ [t]))) = .ok t rest -> rest <:+ r := fun d x r ks ts t rest h => by
   split at h
   ·cases h
   ·cases hi : Bl n (d + 1) x r with
    | ok t1 r1 => rw [hi] at h; simp only [BR.bind] at h; exact (hD _ _ _ _ _ _ _ h).trans (hP _ _ _ _ _ hi)
    | bad no e => rw [hi] at h; simp only [BR.bind] at h; cases h
    | out => rw [hi] at h; simp only [BR.bind] at h; cases h
  refine ⟨fun m d x r t rest h => ?_, fun no m d l t rest h => ?_, fun d x r t rest h => ?_, fun col d l acc t rest h => ?_, fun d x r acc t rest hb h => ?_, fun d x r t rest h => ?_, fun col d l ks ts t rest h => ?_, fun d x r ks ts t rest hb h => ?_⟩
  ·rw [A8] at h
   (try simp only at h)
   split at h
   ·cases h
   ·cases hb : Bp x.l with
    | dash => rw [hb] at h; exact hS2 _ _ _ _ _ _ hb h
    | key => rw [hb] at h; exact hD2 _ _ _ _ _ _ _ hb h
    | name s =>
     rw [hb] at h
     obtain ⟨t', h', _⟩ := Is h
     exact hB _ _ _ _ _ _ h'
    | plain => rw [hb] at h; rw [(FD h).1]; exact List.suffix_refl _
  ·cases l with
   | nil =>
    rw [Ap] at h
    (try simp only at h)
    split at h
    ·cases h
    ·injection h with _ h; rw [<- h]; exact List.suffix_refl _
   | cons x r =>
    rw [Ap] at h
    (try simp only at h)
    split at h
    ·exact (hN _ _ _ _ _ _ h).trans (List.suffix_cons _ _)
    ·split at h
     ·cases h
     ·injection h with _ h; rw [<- h]; exact List.suffix_refl _
  ·rw [AQ] at h
   split at h
   ·exact hB _ _ _ _ _ _ h
   ·exact hN _ _ _ _ _ _ h
  ·cases l with
   | nil => rw [Bn] at h; (try simp only at h); injection h with _ h; rw [<- h]; exact List.suffix_refl _
   | cons x r =>
    rw [Bn] at h
    (try simp only at h)
    split at h
    ·rename_i hx
     rw [<- hx.1] at h
     exact (sq _ _ _ _ _ _ h).trans (List.suffix_cons _ _)
    ·rw [(GN h).2.1]; exact List.suffix_refl _
  ·rw [Bn] at h
   (try simp only at h)
   rw [if_pos ⟨trivial, hb⟩] at h
   exact sq _ _ _ _ _ _ h
  ·rw [Bl] at h
   split at h
   ·obtain ⟨t', h', _⟩ := Is h
    exact hB _ _ _ _ _ _ h'
   ·split at h
    ·exact hB _ _ _ _ _ _ h
    ·rw [(FD h).1]; exact List.suffix_refl _
  ·cases l with
   | nil => rw [AD] at h; (try simp only at h); injection h with _ h; rw [<- h]; exact List.suffix_refl _
   | cons x r =>
    rw [AD] at h
    (try simp only at h)
    split at h
    ·rename_i hx
     rw [<- hx.1] at h
     exact (dq _ _ _ _ _ _ _ h).trans (List.suffix_cons _ _)
    ·rw [(GN h).2.1]; exact List.suffix_refl _
  ·rw [AD] at h
   (try simp only at h)
   rw [if_pos ⟨trivial, hb⟩] at h
   exact dq _ _ _ _ _ _ _ h
def Dp (d : Nat) (b b' : BR) : Prop := match b with
 | .ok t rest => d + Ak t <= 25 /\ ((d + 1 + Ak t <= 25 /\ b' = .ok t rest) \/ (25 < d + 1 + Ak t /\ ∃ no, b' = .bad no 73))
 | .bad _ e => e ≠ 0 /\ ∃ no e', b' = .bad no e' /\ e' ≠ 0
 | .out => True
def Dq (d : Nat) (T : List Sc -> List Tr -> Tr) (b b' : BR) : Prop := match b with
 | .ok t rest => ∃ ks ts, t = T ks ts /\ (ts = [] \/ d + 1 + Ak.deepTs ts <= 25) /\ (((ts = [] \/ d + 2 + Ak.deepTs ts <= 25) /\ b' = .ok t rest) \/ (ts ≠ [] /\ 25 < d + 2 + Ak.deepTs ts /\ ∃ no, b' = .bad no 73))
 | .bad _ e => e ≠ 0 /\ ∃ no e', b' = .bad no e' /\ e' ≠ 0
 | .out => True
theorem Ob (no : Int) (l : List AV) (d : Nat) (r : List En) : Dp d (Bu no l d r) (Bu no l (d + 1) r) := by
 have hp := Ei (AI (AP l)).1
 by_cases h1 : 24 < d
 ·have e1 : Bu no l d r = .bad no 73 := by unfold Bu; rw [if_pos h1]
  have e2 : Bu no l (d + 1) r = .bad no 73 := by unfold Bu; rw [if_pos (by omega)]
  rw [e1, e2]; exact ⟨by decide, no, 73, rfl, by decide⟩
 ·by_cases h2 : (AI (AP l)).2 ≠ 0
  ·have e1 : Bu no l d r = .bad no (AI (AP l)).2 := by unfold Bu; rw [if_neg h1, if_pos h2]
   rw [e1]
   refine ⟨h2, ?_⟩
   unfold Bu
   by_cases h5 : 24 < d + 1
   ·rw [if_pos h5]; exact ⟨no, 73, rfl, by decide⟩
   ·rw [if_neg h5, if_pos h2]; exact ⟨no, _, rfl, h2⟩
  ·by_cases h3 : 24 < Ak (AI (AP l)).1 + d - 1
   ·have e1 : Bu no l d r = .bad no 73 := by unfold Bu; rw [if_neg h1, if_neg h2, if_pos h3]
    rw [e1]
    refine ⟨by decide, no, 73, ?_, by decide⟩
    unfold Bu
    by_cases h5 : 24 < d + 1
    ·rw [if_pos h5]
    ·rw [if_neg h5, if_neg h2, if_pos (by omega)]
   ·have e1 : Bu no l d r = .ok (AI (AP l)).1 r := by unfold Bu; rw [if_neg h1, if_neg h2, if_neg h3]
    rw [e1]
    refine ⟨by omega, ?_⟩
    unfold Bu
    by_cases h4 : d + 1 + Ak (AI (AP l)).1 <= 25
    ·exact .inl ⟨h4, by rw [if_neg (by omega), if_neg h2, if_neg (by omega)]⟩
    ·refine .inr ⟨by omega, no, ?_⟩
     by_cases h5 : 24 < d + 1
     ·rw [if_pos h5]
     ·rw [if_neg h5, if_neg h2, if_pos (by omega)]
theorem QY (no : Int) (s : List UInt8) (d : Nat) {b b' : BR} (h : Dp d b b') : Dp d (D7 no s b) (D7 no s b') := by
 cases b with
 | out => exact trivial
 | bad n e =>
  obtain ⟨h1, no', e', rfl, h2⟩ := h
  exact ⟨h1, no', e', rfl, h2⟩
 | ok t rest =>
  obtain ⟨h1, h2⟩ := h
  unfold D7
  try simp only
  by_cases hk : t.kind = 3 \/ t.nm ≠ ⟨#[]⟩
  ·rw [if_pos hk]
   refine ⟨by decide, ?_⟩
   rcases h2 with ⟨_, rfl⟩ | ⟨_, n', rfl⟩
   ·exact ⟨no, 93, by simp only; rw [if_pos hk], by decide⟩
   ·exact ⟨n', 73, rfl, by decide⟩
  ·rw [if_neg hk]
   refine ⟨by rw [E5]; exact h1, ?_⟩
   rw [E5]
   rcases h2 with ⟨h3, rfl⟩ | ⟨h3, n', rfl⟩
   ·exact .inl ⟨h3, by simp only; rw [if_neg hk]⟩
   ·exact .inr ⟨h3, n', rfl⟩
theorem LR {d : Nat} {no e no' e' : Int} (h : e ≠ 0) (h' : e' ≠ 0) : Dp d (.bad no e) (.bad no' e') := ⟨h, no', e', rfl, h'⟩
theorem Ri {d : Nat} {no : Int} {r : List En} : Dp d (if 24 < d then .bad no 73 else .ok CL r) (if 24 < d + 1 then .bad no 73 else .ok CL r) := by
 by_cases h : 24 < d
 ·rw [if_pos h, if_pos (by omega)]; exact LR (by decide) (by decide)
 ·rw [if_neg h]
  refine ⟨by rw [DD]; omega, ?_⟩
  rw [DD]
  by_cases h2 : 24 < d + 1
  ·rw [if_pos h2]; exact .inr ⟨by omega, no, rfl⟩
  ·rw [if_neg h2]; exact .inl ⟨by omega, rfl⟩
theorem OR (d : Nat) (T : List Sc -> List Tr -> Tr) (col : Int) (x : En) (r : List En) : Dq d T (CR col (T [] []) x r) (CR col (T [] []) x r) := by
 unfold CR
 split
 ·exact ⟨[], [], rfl, .inl rfl, .inl ⟨.inl rfl, rfl⟩⟩
 ·split
  ·exact ⟨by decide, _, _, rfl, by decide⟩
  ·exact ⟨by decide, _, _, rfl, by decide⟩
theorem Pd {d : Nat} {T : List Sc -> List Tr -> Tr} {x : Sc} {b b' : BR} (h : Dp (d + 1) b b') (f f' : Tr -> List En -> BR)
  (hf : ∀ t rest, b = .ok t rest -> Dq d (fun ks ts => T (x :: ks) (t :: ts)) (f t rest) (f' t rest)) :
  Dq d T (b.bind f) (b'.bind f') := by
 cases b with
 | out => exact trivial
 | bad n e =>
  obtain ⟨h1, no', e', rfl, h2⟩ := h
  exact ⟨h1, no', e', rfl, h2⟩
 | ok t rest =>
  obtain ⟨h1, h2⟩ := h
  have h3 := hf t rest rfl
  show Dq d T (f t rest) (b'.bind f')
  revert h3
  cases f t rest with
  | out => exact fun _ => trivial
  | bad n e =>
   rintro ⟨g1, no', e', g2, g3⟩
   refine ⟨g1, ?_⟩
   rcases h2 with ⟨_, rfl⟩ | ⟨_, n', rfl⟩
   ·exact ⟨no', e', g2, g3⟩
   ·exact ⟨n', 73, rfl, by decide⟩
  | ok u rest2 =>
   rintro ⟨ks, ts, rfl, g1, g2⟩
   refine ⟨x :: ks, t :: ts, rfl, .inr ?_, ?_⟩
   ·rw [AM]
    rcases g1 with rfl | g1
    ·rw [AY]; omega
    ·omega
   ·rcases h2 with ⟨h4, rfl⟩ | ⟨h4, n', rfl⟩
    ·simp only
     rcases g2 with ⟨g3, g4⟩ | ⟨g3, g4, n', g5⟩
     ·refine .inl ⟨.inr ?_, g4⟩
      rw [AM]
      rcases g3 with rfl | g3
      ·rw [AY]; omega
      ·omega
     ·refine .inr ⟨by simp, ?_, n', g5⟩
      rw [AM]; omega
    ·refine .inr ⟨by simp, ?_, n', rfl⟩
     rw [AM]; omega
theorem Mu {d : Nat} {T : List Sc -> List Tr -> Tr} {no : Int} {b b' : BR} (hT : ∀ ks ts, Ak (T ks ts) = Ak.deepTs ts + 1) (h : Dq d T b b') :
  Dp d (if 24 < d then .bad no 73 else b) (if 24 < d + 1 then .bad no 73 else b') := by
 by_cases h1 : 24 < d
 ·rw [if_pos h1, if_pos (by omega)]; exact LR (by decide) (by decide)
 ·rw [if_neg h1]
  cases b with
  | out => exact trivial
  | bad n e =>
   obtain ⟨g1, no', e', g2, g3⟩ := h
   refine ⟨g1, ?_⟩
   split
   ·exact ⟨no, 73, rfl, by decide⟩
   ·exact ⟨no', e', g2, g3⟩
  | ok t rest =>
   obtain ⟨ks, ts, rfl, g1, g2⟩ := h
   refine ⟨?_, ?_⟩
   ·rw [hT]
    rcases g1 with rfl | g1
    ·rw [AY]; omega
    ·omega
   ·rw [hT]
    by_cases h2 : 24 < d + 1
    ·rw [if_pos h2]; exact .inr ⟨by omega, no, rfl⟩
    ·rw [if_neg h2]
     rcases g2 with ⟨g3, g4⟩ | ⟨g3, g4, n', g5⟩
     ·refine .inl ⟨?_, g4⟩
      rcases g3 with rfl | g3
      ·rw [AY]; omega
      ·omega
     ·exact .inr ⟨by omega, n', g5⟩
theorem NB : ∀ n, (∀ m d l, Dp d (A8 n m d l) (A8 n m (d + 1) l)) /\ (∀ no m d l, Dp d (Ap n no m d l) (Ap n no m (d + 1) l)) ∧
  (∀ d x r, Dp d (AQ n d x r) (AQ n (d + 1) x r)) /\ (∀ col d l acc, Dq d (fun _ ts => BA (acc ++ ts)) (Bn n col d l acc) (Bn n col (d + 1) l acc)) ∧
  (∀ d x r, Dp d (Bl n d x r) (Bl n (d + 1) x r)) /\ (∀ col d l ks0 ts0, Dq d (fun ks ts => BJ (ks0 ++ ks) (ts0 ++ ts)) (AD n col d l ks0 ts0) (AD n col (d + 1) l ks0 ts0))
 | 0 => by refine ⟨?_, ?_, ?_, ?_, ?_, ?_⟩ <;> intros <;> simp only [A8, Ap, AQ, Bn, Bl, AD, Dp, Dq]
 | n + 1 => by
  obtain ⟨hN, hB, hI, hS, hP, hD⟩ := NB n
  refine ⟨fun m d l => ?_, fun no m d l => ?_, fun d x r => ?_, fun col d l acc => ?_, fun d x r => ?_, fun col d l ks0 ts0 => ?_⟩
  ·cases l with
   | nil => simp only [A8, Dp]
   | cons x r =>
    rw [A8, A8]
    try simp only
    cases Bp x.l with
    | dash => exact Mu (T := fun _ ts => BA ([] ++ ts)) (fun ks ts => by rw [List.nil_append, G4]) (hS _ _ _ _)
    | key => exact Mu (T := fun ks ts => BJ ([] ++ ks) ([] ++ ts)) (fun ks ts => by rw [List.nil_append, List.nil_append, GD]) (hD _ _ _ _ _)
    | name s =>
     try simp only
     by_cases h1 : 24 < d
     ·rw [if_pos h1, if_pos (by omega)]; exact LR (by decide) (by decide)
     ·rw [if_neg h1]
      have h3 := QY x.no s d (hB x.no m d r)
      by_cases h2 : 24 < d + 1
      ·rw [if_pos h2]
       revert h3
       cases D7 x.no s (Ap n x.no m d r) with
       | out => exact fun _ => trivial
       | bad no e => exact fun h => ⟨h.1, x.no, 73, rfl, by decide⟩
       | ok t rest => exact fun h => ⟨h.1, .inr ⟨by have := Ei t; omega, x.no, rfl⟩⟩
      ·rw [if_neg h2]; exact h3
    | plain =>
     try simp only
     by_cases h1 : 24 < d
     ·rw [if_pos h1, if_pos (by omega)]; exact LR (by decide) (by decide)
     ·rw [if_neg h1]
      have h3 := Ob x.no x.l d r
      by_cases h2 : 24 < d + 1
      ·rw [if_pos h2]
       revert h3
       cases Bu x.no x.l d r with
       | out => exact fun _ => trivial
       | bad no e => exact fun h => ⟨h.1, x.no, 73, rfl, by decide⟩
       | ok t rest => exact fun h => ⟨h.1, .inr ⟨by have := Ei t; omega, x.no, rfl⟩⟩
      ·rw [if_neg h2]; exact h3
  ·cases l with
   | nil => rw [Ap, Ap]; exact Ri
   | cons x r =>
    rw [Ap, Ap]
    try simp only
    split
    ·exact hN _ _ _
    ·exact Ri
  ·rw [AQ, AQ]
   split
   ·exact hB _ _ _ _
   ·exact hN _ _ _
  ·cases l with
   | nil => rw [Bn, Bn]; exact ⟨[], [], by simp only [List.append_nil], .inl rfl, .inl ⟨.inl rfl, rfl⟩⟩
   | cons x r =>
    rw [Bn, Bn]
    try simp only
    split
    ·refine Pd (x := CF) (hI (d + 1) x r) (fun t rest => Bn n col d rest (acc ++ [t])) (fun t rest => Bn n col (d + 1) rest (acc ++ [t])) fun t rest _ => ?_
     have := hS col d rest (acc ++ [t])
     simpa only [List.append_assoc, List.singleton_append] using this
    ·have := OR d (fun _ ts => BA (acc ++ ts)) col x r
     simpa only [List.append_nil] using this
  ·rw [Bl, Bl]
   split
   ·exact QY _ _ _ (hB _ _ _ _)
   ·split
    ·exact hB _ _ _ _
    ·exact Ob _ _ _ _
  ·cases l with
   | nil => rw [AD, AD]; exact ⟨[], [], by simp only [List.append_nil], .inl rfl, .inl ⟨.inl rfl, rfl⟩⟩
   | cons x r =>
    rw [AD, AD]
    try simp only
    split
    ·split
     ·rename_i hk
      exact ⟨hk, _, _, rfl, hk⟩
     ·refine Pd (x := (Co x.l).1) (hP (d + 1) x r) (fun t rest => AD n col d rest (ks0 ++ [(Co x.l).1]) (ts0 ++ [t])) (fun t rest => AD n col (d + 1) rest (ks0 ++ [(Co x.l).1]) (ts0 ++ [t])) fun t rest _ => ?_
      have := hD col d rest (ks0 ++ [(Co x.l).1]) (ts0 ++ [t])
      simpa only [List.append_assoc, List.singleton_append] using this
    ·have := OR d (fun ks ts => BJ (ks0 ++ ks) (ts0 ++ ts)) col x r
     simpa only [List.append_nil] using this
def Dw (l : List En) : Nat := (l.map fun x => x.l.length + 1).sum
theorem AA (x : En) (l : List En) : Dw (x :: l) = x.l.length + 1 + Dw l := by unfold Dw; simp
theorem DN {r l : List En} (h : r <:+ l) : Dw r <= Dw l := by
 obtain ⟨p, rfl⟩ := h
 unfold Dw
 rw [List.map_append, List.sum_append]
 omega
def JA (l : List En) : Prop := ∀ x ∈ l, x.l ≠ []
theorem JA.suffix {r l : List En} (h : JA l) (hs : r <:+ l) : JA r := fun x hx => h x (hs.subset hx)
theorem To {l : List AV} (h : Bp l = .key) : 2 <= l.length := by
 unfold Bp at h
 split at h
 ·cases h
 ·split at h
  ·rename_i h2
   have h3 := h2.2
   unfold GT at h3
   rcases Nat.lt_or_ge 1 l.length with h4 | h4
   ·exact h4
   ·rw [List.getD, List.getElem?_eq_none h4] at h3; exact absurd h3 (by decide)
  ·split at h <;> cases h
theorem Mx {no : Int} {s : List UInt8} {b : BR} (h : b ≠ .out) : D7 no s b ≠ .out := by
 cases b with
 | ok t rest => unfold D7; (try simp only); split <;> simp
 | bad n e => simp [D7]
 | out => exact absurd rfl h
theorem IA {no : Int} {l : List AV} {d : Nat} {r : List En} : Bu no l d r ≠ .out := by
 unfold Bu; repeat (split; · simp)
 simp
theorem JN {col : Int} {t : Tr} {x : En} {r : List En} : CR col t x r ≠ .out := by
 unfold CR; repeat (split; · simp)
 simp
theorem NV : ∀ n, (∀ m d l, JA l -> l ≠ [] -> 4 * Dw l + 2 <= n -> A8 n m d l ≠ .out) /\ (∀ no m d l, JA l -> 4 * Dw l + 3 <= n -> Ap n no m d l ≠ .out) ∧
  (∀ d x r, JA (x :: r) -> 4 * Dw (x :: r) <= n -> AQ n d x r ≠ .out) /\ (∀ col d l acc, JA l -> 4 * Dw l + 1 <= n -> Bn n col d l acc ≠ .out) ∧
  (∀ d x r, JA (x :: r) -> 4 * Dw (x :: r) <= n -> Bl n d x r ≠ .out) /\ (∀ col d l ks ts, JA l -> 4 * Dw l + 1 <= n -> AD n col d l ks ts ≠ .out)
 | 0 => ⟨fun _ _ _ _ _ h => by omega, fun _ _ _ _ _ h => by omega, fun _ x r _ h => by rw [AA] at h; omega, fun _ _ _ _ _ h => by omega, fun _ x r _ h => by rw [AA] at h; omega, fun _ _ _ _ _ _ h => by omega⟩
 | n + 1 => by
  obtain ⟨hN, hB, hI, hS, hP, hD⟩ := NV n
  refine ⟨fun m d l hf hne hn => ?_, fun no m d l hf hn => ?_, fun d x r hf hn => ?_, fun col d l acc hf hn => ?_, fun d x r hf hn => ?_, fun col d l ks ts hf hn => ?_⟩
  ·cases l with
   | nil => exact absurd rfl hne
   | cons x r =>
    rw [AA] at hn
    rw [A8]
    try simp only
    split
    ·simp
    ·cases Bp x.l with
     | dash => exact hS _ _ _ _ hf (by rw [AA]; omega)
     | key => exact hD _ _ _ _ _ hf (by rw [AA]; omega)
     | name s => exact Mx (hB _ _ _ _ (hf.suffix (List.suffix_cons _ _)) (by omega))
     | plain => exact IA
  ·cases l with
   | nil => rw [Ap]; (try simp only); split <;> simp
   | cons x r =>
    rw [Ap]
    try simp only
    split
    ·exact hN _ _ _ hf (by simp) (by omega)
    ·split <;> simp
  ·have hx := hf x List.mem_cons_self
   have hxl : 1 <= x.l.length := List.length_pos_iff.2 hx
   rw [AA] at hn
   rw [AQ]
   split
   ·exact hB _ _ _ _ (hf.suffix (List.suffix_cons _ _)) (by omega)
   ·rename_i h1
    have ht : x.l.tail.length = x.l.length - 1 := List.length_tail
    refine hN _ _ _ (fun y hy => ?_) (by simp) ?_
    ·rcases List.mem_cons.1 hy with rfl | hy
     ·intro h0
      have h0 : x.l.tail = [] := h0
      rw [h0] at ht
      simp at ht; omega
     ·exact hf y (List.mem_cons_of_mem _ hy)
    ·rw [AA]
     have : (Ca x).l.length = x.l.length - 1 := ht
     rw [this]; omega
  ·cases l with
   | nil => rw [Bn]; simp
   | cons x r =>
    rw [AA] at hn
    rw [Bn]
    try simp only
    split
    ·have h1 := hI (d + 1) x r hf (by rw [AA]; omega)
     cases hi : AQ n (d + 1) x r with
     | out => exact absurd hi h1
     | bad no e => simp [BR.bind]
     | ok t rest =>
      have hs := (suffix n).2.2.1 _ _ _ _ _ hi
      have hm := DN hs
      exact hS _ _ _ _ ((hf.suffix (List.suffix_cons _ _)).suffix hs) (by omega)
    ·exact JN
  ·rw [AA] at hn
   rw [Bl]
   split
   ·exact Mx (hB _ _ _ _ (hf.suffix (List.suffix_cons _ _)) (by omega))
   ·split
    ·exact hB _ _ _ _ (hf.suffix (List.suffix_cons _ _)) (by omega)
    ·exact IA
  ·cases l with
   | nil => rw [AD]; simp
   | cons x r =>
    rw [AA] at hn
    rw [AD]
    try simp only
    split
    ·split
     ·simp
     ·have h1 := hP (d + 1) x r hf (by rw [AA]; omega)
      cases hi : Bl n (d + 1) x r with
      | out => exact absurd hi h1
      | bad no e => simp [BR.bind]
      | ok t rest =>
       have hs := (suffix n).2.2.2.2.2.1 _ _ _ _ _ hi
       have hm := DN hs
       exact hD _ _ _ _ _ ((hf.suffix (List.suffix_cons _ _)).suffix hs) (by omega)
    ·exact JN
end
end Go.Proofs.YtaogfdffgdglkaaGreatDoor
