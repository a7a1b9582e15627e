import Derived.Test.YtiinnnbpbnojgaaGreatDoorWl
/- What is proved: what pieces of a line say, as a grammar and as a function that tells the first mistake; they agree; no program stands in it. -/
namespace Go.Proofs.YtiinnnbpbnojgaaGreatDoor
open Go Go.RowKit Go.Lib
set_option linter.unusedSimpArgs false
set_option linter.unusedVariables false

/-- A piece: its kind and its text. -/
structure Pc where
  kind : Int
  str : List UInt8
/-- A tree. -/
inductive Tr where
  | mk (kind : Int) (name : ByteArray) (x : Sc) (keys : List Sc) (kids : List Tr)
def Tr.named : Tr → List UInt8 → Tr
  | .mk k _ x ks ts, s => .mk k ⟨s.toArray⟩ x ks ts
def Tr.kind : Tr → Int
  | .mk k _ _ _ _ => k
def Tr.kids : Tr → List Tr
  | .mk _ _ _ _ ts => ts
def tr0 : Tr := .mk 0 ⟨#[]⟩ sc0 [] []
def oneTr (x : Sc) : Tr := .mk 0 ⟨#[]⟩ x [] []
def refTr (s : List UInt8) : Tr := .mk 3 ⟨s.toArray⟩ sc0 [] []
def seqTr (ts : List Tr) : Tr := .mk 1 ⟨#[]⟩ sc0 [] ts
def mapTr (ks : List Sc) (ts : List Tr) : Tr := .mk 2 ⟨#[]⟩ sc0 ks ts
/-- How deep a tree is. -/
def deepTr : Tr → Nat
  | .mk _ _ _ _ ts => deepTs ts + 1
where deepTs : List Tr → Nat
  | [] => 0
  | t :: r => max (deepTr t) (deepTs r)
theorem deep_pos (t : Tr) : 1 ≤ deepTr t := by cases t; unfold deepTr; omega
theorem deep_named (t : Tr) (s : List UInt8) : deepTr (t.named s) = deepTr t := by cases t; unfold Tr.named deepTr; rfl
theorem deep_seq (ts : List Tr) : deepTr (seqTr ts) = deepTr.deepTs ts + 1 := by unfold seqTr deepTr; rfl
theorem deep_map (ks : List Sc) (ts : List Tr) : deepTr (mapTr ks ts) = deepTr.deepTs ts + 1 := by unfold mapTr deepTr; rfl
theorem deep_one (x : Sc) : deepTr (oneTr x) = 1 := by unfold oneTr deepTr; rfl
theorem deep_ref (s : List UInt8) : deepTr (refTr s) = 1 := by unfold refTr deepTr; rfl
theorem deep_tr0 : deepTr tr0 = 1 := by unfold tr0 deepTr; rfl

/-- A key. -/
def keyP (t : Pc) : Sc × Int :=
  if t.kind = 1 then (if (resolveP ⟨t.str.toArray⟩).2 = 0 then resolveP ⟨t.str.toArray⟩ else (sc0, (resolveP ⟨t.str.toArray⟩).2))
  else if t.kind = 2 then (if validD t.str then (⟨3, 0, ⟨t.str.toArray⟩⟩, 0) else (sc0, 40)) else (sc0, 91)
def hk : List Pc → Int
  | [] => 0
  | t :: _ => t.kind
theorem hk_app {l c : List Pc} (h : l ≠ []) : hk (l ++ c) = hk l := by
  cases l with
  | nil => exact absurd rfl h
  | cons t r => rfl

/-- What is read: a tree, and what stands behind; or a mistake. -/
inductive FR where
  | ok (t : Tr) (rest : List Pc)
  | bad (e : Int)

mutual
def valF : Nat → Nat → List Pc → FR
  | 0, _, _ => .bad 91
  | n + 1, d, l => if 24 < d then .bad 73 else
    match l with
    | [] => .bad 91
    | t :: r =>
      if t.kind = 3 then (if hk r = 3 ∨ hk r = 4 then .bad 91 else match valF n d r with
        | .ok v rest => .ok (v.named t.str) rest
        | .bad e => .bad e)
      else if t.kind = 4 then .ok (refTr t.str) r
      else if t.kind = 8 then listF n d r []
      else if t.kind = 10 then dictF n d r [] []
      else if (keyP t).2 = 0 then .ok (oneTr (keyP t).1) r else .bad (keyP t).2
def listF : Nat → Nat → List Pc → List Tr → FR
  | 0, _, _, _ => .bad 91
  | n + 1, d, l, acc => if hk l = 9 then .ok (seqTr acc) l.tail else
    match valF n (d + 1) l with
    | .bad e => .bad e
    | .ok v rest => if hk rest = 7 then listF n d rest.tail (acc ++ [v]) else if hk rest = 9 then .ok (seqTr (acc ++ [v])) rest.tail else .bad 91
def dictF : Nat → Nat → List Pc → List Sc → List Tr → FR
  | 0, _, _, _, _ => .bad 91
  | n + 1, d, l, ks, ts => if hk l = 11 then .ok (mapTr ks ts) l.tail else
    match l with
    | [] => .bad 91
    | t :: r =>
      if (keyP t).2 ≠ 0 then .bad (keyP t).2 else if hk r ≠ 6 then .bad 91 else if 24 < d + 1 then .bad 73 else
      if hk r.tail = 7 then dictF n d r.tail.tail (ks ++ [(keyP t).1]) (ts ++ [tr0]) else if hk r.tail = 11 then .ok (mapTr (ks ++ [(keyP t).1]) (ts ++ [tr0])) r.tail.tail else
      match valF n (d + 1) r.tail with
      | .bad e => .bad e
      | .ok v rest => if hk rest = 7 then dictF n d rest.tail (ks ++ [(keyP t).1]) (ts ++ [v]) else if hk rest = 11 then .ok (mapTr (ks ++ [(keyP t).1]) (ts ++ [v])) rest.tail else .bad 91
end

mutual
/-- Pieces that are a value. -/
inductive PV : List Pc → Tr → Prop
  | key (t : Pc) (h : (keyP t).2 = 0) : PV [t] (oneTr (keyP t).1)
  | ali (t : Pc) (h : t.kind = 4) : PV [t] (refTr t.str)
  | nam (t : Pc) (p : List Pc) (v : Tr) (h : t.kind = 3) (h2 : hk p ≠ 3) (h3 : hk p ≠ 4) (hp : PV p v) : PV (t :: p) (v.named t.str)
  | lst (t : Pc) (p : List Pc) (ts : List Tr) (h : t.kind = 8) (hp : PI p ts) : PV (t :: p) (seqTr ts)
  | dic (t : Pc) (p : List Pc) (ks : List Sc) (ts : List Tr) (h : t.kind = 10) (hp : PD p ks ts) : PV (t :: p) (mapTr ks ts)
/-- Items, and the end of a list. -/
inductive PI : List Pc → List Tr → Prop
  | nil (c : Pc) (h : c.kind = 9) : PI [c] []
  | last (p : List Pc) (v : Tr) (c : Pc) (hp : PV p v) (h : c.kind = 9) : PI (p ++ [c]) [v]
  | cons (p : List Pc) (v : Tr) (m : Pc) (q : List Pc) (ts : List Tr) (hp : PV p v) (h : m.kind = 7) (hq : PI q ts) : PI (p ++ m :: q) (v :: ts)
/-- Pairs, and the end of a map. -/
inductive PD : List Pc → List Sc → List Tr → Prop
  | nil (c : Pc) (h : c.kind = 11) : PD [c] [] []
  | last (p : List Pc) (x : Sc) (v : Tr) (c : Pc) (hp : PP p x v) (h : c.kind = 11) : PD (p ++ [c]) [x] [v]
  | cons (p : List Pc) (x : Sc) (v : Tr) (m : Pc) (q : List Pc) (ks : List Sc) (ts : List Tr) (hp : PP p x v) (h : m.kind = 7) (hq : PD q ks ts) : PD (p ++ m :: q) (x :: ks) (v :: ts)
/-- A pair. -/
inductive PP : List Pc → Sc → Tr → Prop
  | none (k c : Pc) (h : (keyP k).2 = 0) (hc : c.kind = 6) : PP [k, c] (keyP k).1 tr0
  | some (k c : Pc) (p : List Pc) (v : Tr) (h : (keyP k).2 = 0) (hc : c.kind = 6) (hp : PV p v) : PP (k :: c :: p) (keyP k).1 v
end

/-- The kinds with which a value begins. -/
theorem key_kind {t : Pc} (h : (keyP t).2 = 0) : t.kind = 1 ∨ t.kind = 2 := by
  unfold keyP at h
  by_cases h1 : t.kind = 1
  · exact .inl h1
  · rw [if_neg h1] at h
    by_cases h2 : t.kind = 2
    · exact .inr h2
    · rw [if_neg h2] at h; cases h
theorem pv_head {p : List Pc} {v : Tr} (h : PV p v) : p ≠ [] ∧ (hk p = 1 ∨ hk p = 2 ∨ hk p = 4 ∨ hk p = 3 ∨ hk p = 8 ∨ hk p = 10) := by
  cases h with
  | key t h => exact ⟨by simp, by rcases key_kind h with k | k <;> simp [hk, k]⟩
  | ali t h => exact ⟨by simp, by simp [hk, h]⟩
  | nam t p v h _ _ _ => exact ⟨by simp, by simp [hk, h]⟩
  | lst t p ts h _ => exact ⟨by simp, by simp [hk, h]⟩
  | dic t p ks ts h _ => exact ⟨by simp, by simp [hk, h]⟩
theorem pi_pos {p : List Pc} {ts : List Tr} (h : PI p ts) : p ≠ [] := by cases h <;> simp
theorem pd_pos {p : List Pc} {ks : List Sc} {ts : List Tr} (h : PD p ks ts) : p ≠ [] := by cases h <;> simp
theorem pp_pos {p : List Pc} {x : Sc} {v : Tr} (h : PP p x v) : p ≠ [] := by cases h <;> simp

/-! ### What the function reads is a value. -/
/-- What the reading of a value, of items, of pairs means. -/
def SV (n : Nat) : Prop := ∀ d l t rest, valF n d l = .ok t rest → ∃ p, l = p ++ rest ∧ PV p t ∧ d + deepTr t ≤ 25
def SI (n : Nat) : Prop := ∀ d l acc t rest, listF n d l acc = .ok t rest → ∃ p ts, l = p ++ rest ∧ PI p ts ∧ t = seqTr (acc ++ ts) ∧ (ts ≠ [] → d + 1 + deepTr.deepTs ts ≤ 25)
def SD (n : Nat) : Prop := ∀ d l ks0 ts0 t rest, dictF n d l ks0 ts0 = .ok t rest → ∃ p ks ts, l = p ++ rest ∧ PD p ks ts ∧ t = mapTr (ks0 ++ ks) (ts0 ++ ts) ∧ (ts ≠ [] → d + 1 + deepTr.deepTs ts ≤ 25)
theorem cons_tail {l : List Pc} {k : Int} (h : hk l = k) (hk0 : k ≠ 0) : ∃ c, c.kind = k ∧ l = c :: l.tail := by
  cases l with
  | nil => exact absurd h.symm hk0
  | cons c r => exact ⟨c, h, rfl⟩
theorem sound : ∀ n, SV n ∧ SI n ∧ SD n
  | 0 => ⟨fun d l t rest h => by simp [valF] at h, fun d l acc t rest h => by simp [listF] at h, fun d l ks ts t rest h => by simp [dictF] at h⟩
  | n + 1 => by
    obtain ⟨hV, hI, hD⟩ := sound n
    refine ⟨fun d l t rest h => ?_, fun d l acc t rest h => ?_, fun d l ks0 ts0 t rest h => ?_⟩
    · unfold valF at h
      split at h
      · cases h
      · rename_i hd
        cases l with
        | nil => cases h
        | cons a r =>
          simp only at h
          split at h
          · rename_i h3
            split at h
            · cases h
            · rename_i hn
              cases hv : valF n d r with
              | bad e => rw [hv] at h; cases h
              | ok v rest' =>
                rw [hv] at h
                injection h with h1 h2
                subst h1 h2
                obtain ⟨p, hp, hpv, hdp⟩ := hV _ _ _ _ hv
                have hne := (pv_head hpv).1
                rw [hp, hk_app hne] at hn
                exact ⟨a :: p, by rw [hp]; rfl, .nam a p v h3 (fun k => hn (.inl k)) (fun k => hn (.inr k)) hpv, by rw [deep_named]; exact hdp⟩
          · split at h
            · rename_i h4
              injection h with h1 h2
              subst h1 h2
              exact ⟨[a], rfl, .ali a h4, by rw [deep_ref]; omega⟩
            · split at h
              · rename_i h8
                obtain ⟨p, ts, hp, hpi, ht, hdp⟩ := hI _ _ _ _ _ h
                subst ht
                refine ⟨a :: p, by rw [hp]; rfl, .lst a p ts h8 hpi, ?_⟩
                rw [List.nil_append, deep_seq]
                by_cases hts : ts = []
                · subst hts; unfold deepTr.deepTs; omega
                · have := hdp hts; omega
              · split at h
                · rename_i h10
                  obtain ⟨p, ks, ts, hp, hpi, ht, hdp⟩ := hD _ _ _ _ _ _ h
                  subst ht
                  refine ⟨a :: p, by rw [hp]; rfl, .dic a p ks ts h10 hpi, ?_⟩
                  rw [List.nil_append, List.nil_append, deep_map]
                  by_cases hts : ts = []
                  · subst hts; unfold deepTr.deepTs; omega
                  · have := hdp hts; omega
                · split at h
                  · rename_i hk
                    injection h with h1 h2
                    subst h1 h2
                    exact ⟨[a], rfl, .key a hk, by rw [deep_one]; omega⟩
                  · cases h
    · unfold listF at h
      split at h
      · rename_i h9
        injection h with h1 h2
        subst h1 h2
        obtain ⟨c, hc, hl⟩ := cons_tail h9 (by decide)
        exact ⟨[c], [], by rw [hl]; rfl, .nil c hc, by rw [List.append_nil], fun k => absurd rfl k⟩
      · cases hv : valF n (d + 1) l with
        | bad e => rw [hv] at h; cases h
        | ok v rest' =>
          rw [hv] at h
          simp only at h
          obtain ⟨p, hp, hpv, hdp⟩ := hV _ _ _ _ hv
          split at h
          · rename_i h7
            obtain ⟨m, hm, hr⟩ := cons_tail h7 (by decide)
            obtain ⟨q, ts, hq, hqi, ht, hdq⟩ := hI _ _ _ _ _ h
            refine ⟨p ++ m :: q, v :: ts, by rw [hp, hr, hq]; simp, .cons p v m q ts hpv hm hqi, by rw [ht, List.append_assoc]; rfl, fun _ => ?_⟩
            unfold deepTr.deepTs
            by_cases hts : ts = []
            · subst hts; unfold deepTr.deepTs; omega
            · have := hdq hts; omega
          · split at h
            · rename_i h9
              obtain ⟨c, hc, hr⟩ := cons_tail h9 (by decide)
              injection h with h1 h2
              subst h1 h2
              refine ⟨p ++ [c], [v], by rw [hp, hr]; simp, .last p v c hpv hc, rfl, fun _ => ?_⟩
              unfold deepTr.deepTs deepTr.deepTs
              omega
            · cases h
    · unfold dictF at h
      split at h
      · rename_i h11
        injection h with h1 h2
        subst h1 h2
        obtain ⟨c, hc, hl⟩ := cons_tail h11 (by decide)
        exact ⟨[c], [], [], by rw [hl]; rfl, .nil c hc, by rw [List.append_nil, List.append_nil], fun k => absurd rfl k⟩
      · cases l with
        | nil => cases h
        | cons a r =>
          simp only at h
          split at h
          · cases h
          · rename_i hkk
            have hka : (keyP a).2 = 0 := Decidable.not_not.1 hkk
            split at h
            · cases h
            · rename_i h6
              have h6' : hk r = 6 := Decidable.not_not.1 h6
              obtain ⟨c, hc, hr⟩ := cons_tail h6' (by decide)
              split at h
              · cases h
              · rename_i hdd
                split at h
                · rename_i h7
                  obtain ⟨m, hm, hr2⟩ := cons_tail h7 (by decide)
                  obtain ⟨q, ks, ts, hq, hqd, ht, hdq⟩ := hD _ _ _ _ _ _ h
                  refine ⟨[a, c] ++ m :: q, (keyP a).1 :: ks, tr0 :: ts, by rw [hr, hr2, hq]; simp, .cons _ _ _ m q ks ts (.none a c hka hc) hm hqd, by rw [ht, List.append_assoc, List.append_assoc]; rfl, fun _ => ?_⟩
                  unfold deepTr.deepTs
                  rw [deep_tr0]
                  by_cases hts : ts = []
                  · subst hts; unfold deepTr.deepTs; omega
                  · have := hdq hts; omega
                · split at h
                  · rename_i h11
                    obtain ⟨e, he, hr2⟩ := cons_tail h11 (by decide)
                    injection h with h1 h2
                    subst h1 h2
                    refine ⟨[a, c] ++ [e], [(keyP a).1], [tr0], by rw [hr, hr2]; simp, .last _ _ _ e (.none a c hka hc) he, rfl, fun _ => ?_⟩
                    unfold deepTr.deepTs deepTr.deepTs
                    rw [deep_tr0]; omega
                  · cases hv : valF n (d + 1) r.tail with
                    | bad e => rw [hv] at h; cases h
                    | ok v rest' =>
                      rw [hv] at h
                      simp only at h
                      obtain ⟨p, hp, hpv, hdp⟩ := hV _ _ _ _ hv
                      split at h
                      · rename_i h7
                        obtain ⟨m, hm, hr2⟩ := cons_tail h7 (by decide)
                        obtain ⟨q, ks, ts, hq, hqd, ht, hdq⟩ := hD _ _ _ _ _ _ h
                        refine ⟨(a :: c :: p) ++ m :: q, (keyP a).1 :: ks, v :: ts, by rw [hr, hp, hr2, hq]; simp, .cons _ _ _ m q ks ts (.some a c p v hka hc hpv) hm hqd, by rw [ht, List.append_assoc, List.append_assoc]; rfl, fun _ => ?_⟩
                        unfold deepTr.deepTs
                        by_cases hts : ts = []
                        · subst hts; unfold deepTr.deepTs; omega
                        · have := hdq hts; omega
                      · split at h
                        · rename_i h11
                          obtain ⟨e, he, hr2⟩ := cons_tail h11 (by decide)
                          injection h with h1 h2
                          subst h1 h2
                          refine ⟨(a :: c :: p) ++ [e], [(keyP a).1], [v], by rw [hr, hp, hr2]; simp, .last _ _ _ e (.some a c p v hka hc hpv) he, rfl, fun _ => ?_⟩
                          unfold deepTr.deepTs deepTr.deepTs
                          omega
                        · cases h
end Go.Proofs.YtiinnnbpbnojgaaGreatDoor

/- What is proved: pieces that are a value are read as that, whatever stands behind, unless it is too deep; without the last ones they are a mistake; no program stands in it. -/
namespace Go.Proofs.YtiinnnbpbnojgaaGreatDoor
open Go Go.RowKit Go.Lib
set_option linter.unusedSimpArgs false
set_option linter.unusedVariables false

def CV (N : Nat) : Prop := ∀ p v, p.length ≤ N → PV p v → ∀ n d c, 2 * p.length ≤ n → valF n d (p ++ c) = if d + deepTr v ≤ 25 then .ok v c else .bad 73
def CI (N : Nat) : Prop := ∀ p ts, p.length ≤ N → PI p ts → ∀ n d c acc, 2 * p.length + 1 ≤ n → listF n d (p ++ c) acc = if ts = [] ∨ d + 1 + deepTr.deepTs ts ≤ 25 then .ok (seqTr (acc ++ ts)) c else .bad 73
def CD (N : Nat) : Prop := ∀ p ks ts, p.length ≤ N → PD p ks ts → ∀ n d c ks0 ts0, 2 * p.length + 1 ≤ n → dictF n d (p ++ c) ks0 ts0 = if ts = [] ∨ d + 1 + deepTr.deepTs ts ≤ 25 then .ok (mapTr (ks0 ++ ks) (ts0 ++ ts)) c else .bad 73
theorem deepTs_cons (v : Tr) (ts : List Tr) : deepTr.deepTs (v :: ts) = max (deepTr v) (deepTr.deepTs ts) := by rw [deepTr.deepTs]
theorem deepTs_nil : deepTr.deepTs [] = 0 := by rw [deepTr.deepTs]
theorem kind_ne {t : Pc} {a : Int} (h : t.kind = a) {b : Int} (hab : a ≠ b) : ¬ t.kind = b := by rw [h]; exact hab
theorem hk_cons (t : Pc) (r : List Pc) : hk (t :: r) = t.kind := rfl

theorem complete : ∀ N, CV N ∧ CI N ∧ CD N
  | 0 => ⟨fun p v h hp => absurd (List.eq_nil_of_length_eq_zero (by omega)) (pv_head hp).1, fun p v h hp => absurd (List.eq_nil_of_length_eq_zero (by omega)) (pi_pos hp), fun p k v h hp => absurd (List.eq_nil_of_length_eq_zero (by omega)) (pd_pos hp)⟩
  | N + 1 => by
    obtain ⟨hV, hI, hD⟩ := complete N
    refine ⟨fun p v hl hp n d c hn => ?_, fun p ts hl hp n d c acc hn => ?_, fun p ks ts hl hp n d c ks0 ts0 hn => ?_⟩
    · cases n with
      | zero => exact absurd (List.eq_nil_of_length_eq_zero (by omega)) (pv_head hp).1
      | succ n =>
        have hpos := deep_pos v
        by_cases hd : 24 < d
        · unfold valF; rw [if_pos hd, if_neg (by omega)]
        · cases hp with
          | key t h =>
            have hkk := key_kind h
            show valF (n + 1) d (t :: c) = _
            unfold valF
            rw [if_neg hd, deep_one, if_pos (by omega)]
            simp only
            rw [if_neg (by omega), if_neg (by omega), if_neg (by omega), if_neg (by omega), if_pos h]
          | ali t h =>
            show valF (n + 1) d (t :: c) = _
            unfold valF
            rw [if_neg hd, deep_ref, if_pos (by omega)]
            simp only
            rw [if_neg (by omega), if_pos h]
          | nam t p v h h2 h3 hp =>
            have hne := (pv_head hp).1
            simp only [List.length_cons] at hl hn
            show valF (n + 1) d (t :: (p ++ c)) = _
            have ih := hV p v (by omega) hp n d c (by omega)
            unfold valF
            rw [if_neg hd]
            simp only
            rw [if_pos h, hk_app hne, if_neg (by omega), ih, deep_named]
            by_cases hdd : d + deepTr v ≤ 25
            · rw [if_pos hdd, if_pos hdd]
            · rw [if_neg hdd, if_neg hdd]
          | lst t p ts h hp =>
            simp only [List.length_cons] at hl hn
            show valF (n + 1) d (t :: (p ++ c)) = _
            have ih := hI p ts (by omega) hp n d c [] (by omega)
            unfold valF
            rw [if_neg hd]
            simp only
            rw [if_neg (by omega), if_neg (by omega), if_pos h, ih, deep_seq, List.nil_append]
            by_cases hts : ts = []
            · rw [if_pos (.inl hts)]; subst hts; rw [deepTs_nil, if_pos (by omega)]
            · by_cases hdd : d + 1 + deepTr.deepTs ts ≤ 25
              · rw [if_pos (.inr hdd), if_pos (by omega)]
              · rw [if_neg (fun k => k.elim hts hdd), if_neg (by omega)]
          | dic t p ks ts h hp =>
            simp only [List.length_cons] at hl hn
            show valF (n + 1) d (t :: (p ++ c)) = _
            have ih := hD p ks ts (by omega) hp n d c [] [] (by omega)
            unfold valF
            rw [if_neg hd]
            simp only
            rw [if_neg (by omega), if_neg (by omega), if_neg (by omega), if_pos h, ih, deep_map, List.nil_append, List.nil_append]
            by_cases hts : ts = []
            · rw [if_pos (.inl hts)]; subst hts; rw [deepTs_nil, if_pos (by omega)]
            · by_cases hdd : d + 1 + deepTr.deepTs ts ≤ 25
              · rw [if_pos (.inr hdd), if_pos (by omega)]
              · rw [if_neg (fun k => k.elim hts hdd), if_neg (by omega)]
    · cases n with
      | zero => omega
      | succ n =>
        cases hp with
        | nil e h =>
          show listF (n + 1) d (e :: c) acc = _
          unfold listF
          rw [hk_cons, if_pos h, if_pos (.inl rfl), List.append_nil]; rfl
        | last p v e hp h =>
          simp only [List.length_append, List.length_cons, List.length_nil] at hl hn
          have hh := pv_head hp
          have ih := hV p v (by omega) hp n (d + 1) (e :: c) (by omega)
          rw [List.append_assoc, List.singleton_append]
          unfold listF
          rw [hk_app hh.1, if_neg (by omega), ih, deepTs_cons, deepTs_nil]
          by_cases hdd : d + 1 + deepTr v ≤ 25
          · rw [if_pos hdd, if_pos (.inr (by omega))]
            simp only
            rw [hk_cons, if_neg (by omega), if_pos h]; rfl
          · rw [if_neg hdd, if_neg (fun k => k.elim (fun k => by cases k) (fun k => by omega))]
        | cons p v m q ts hp h hq =>
          simp only [List.length_append, List.length_cons] at hl hn
          have hh := pv_head hp
          have ih := hV p v (by omega) hp n (d + 1) (m :: (q ++ c)) (by omega)
          have ih2 := hI q ts (by omega) hq n d c (acc ++ [v]) (by omega)
          rw [List.append_assoc, List.cons_append]
          unfold listF
          rw [hk_app hh.1, if_neg (by omega), ih, deepTs_cons]
          by_cases hdd : d + 1 + deepTr v ≤ 25
          · rw [if_pos hdd]
            simp only
            rw [hk_cons, if_pos h, List.tail_cons, ih2, List.append_assoc, List.singleton_append]
            by_cases hts : ts = []
            · subst hts; rw [if_pos (.inl rfl), deepTs_nil, if_pos (.inr (by omega))]
            · by_cases hd2 : d + 1 + deepTr.deepTs ts ≤ 25
              · rw [if_pos (.inr hd2), if_pos (.inr (by omega))]
              · rw [if_neg (fun k => k.elim hts hd2), if_neg (fun k => k.elim (fun k => by cases k) (fun k => by omega))]
          · rw [if_neg hdd, if_neg (fun k => k.elim (fun k => by cases k) (fun k => by omega))]
    · -- pairs
      have pair : ∀ (p : List Pc) (x : Sc) (v : Tr), p.length ≤ N → PP p x v → ∀ n e, 2 * p.length + 1 ≤ n → ∀ (hke : hk e = 7 ∨ hk e = 11) (ks0 : List Sc) (ts0 : List Tr),
          dictF (n + 1) d (p ++ e) ks0 ts0 = if d + 1 + deepTr v ≤ 25 then (if hk e = 7 then dictF n d e.tail (ks0 ++ [x]) (ts0 ++ [v]) else .ok (mapTr (ks0 ++ [x]) (ts0 ++ [v])) e.tail) else .bad 73 := by
        intro p x v hpl hpp n e hn hke ks0 ts0
        cases hpp with
        | none k c2 h hc =>
          have hkk := key_kind h
          show dictF (n + 1) d (k :: c2 :: e) ks0 ts0 = _
          rw [dictF]
          rw [hk_cons, if_neg (by omega)]
          try simp only
          rw [if_neg (Decidable.not_not.2 h), hk_cons, if_neg (Decidable.not_not.2 hc), List.tail_cons, deep_tr0]
          by_cases hdd : 24 < d + 1
          · rw [if_pos hdd, if_neg (by omega)]
          · rw [if_neg hdd, if_pos (show d + 1 + 1 ≤ 25 by omega)]
            by_cases h7 : hk e = 7
            · rw [if_pos h7, if_pos h7]
            · rw [if_neg h7, if_neg h7, if_pos (by omega)]
        | some k c2 p v h hc hp =>
          have hkk := key_kind h
          have hh := pv_head hp
          have hpos := deep_pos v
          simp only [List.length_cons] at hpl hn
          have ih := hV p v (by omega) hp n (d + 1) e (by omega)
          show dictF (n + 1) d (k :: c2 :: (p ++ e)) ks0 ts0 = _
          rw [dictF]
          rw [hk_cons, if_neg (by omega)]
          try simp only
          rw [if_neg (Decidable.not_not.2 h), hk_cons, if_neg (Decidable.not_not.2 hc), List.tail_cons, hk_app hh.1]
          by_cases hdd : 24 < d + 1
          · rw [if_pos hdd, if_neg (by omega)]
          · rw [if_neg hdd, if_neg (by omega), if_neg (by omega), ih]
            by_cases hd2 : d + 1 + deepTr v ≤ 25
            · rw [if_pos hd2, if_pos hd2]
              simp only
              by_cases h7 : hk e = 7
              · rw [if_pos h7, if_pos h7]
              · rw [if_neg h7, if_neg h7, if_pos (by omega)]
            · rw [if_neg hd2, if_neg hd2]
      cases n with
      | zero => omega
      | succ n =>
        cases hp with
        | nil e h =>
          show dictF (n + 1) d (e :: c) ks0 ts0 = _
          unfold dictF
          rw [hk_cons, if_pos h, if_pos (.inl rfl), List.append_nil, List.append_nil]; rfl
        | last p x v e hp h =>
          simp only [List.length_append, List.length_cons, List.length_nil] at hl hn
          rw [List.append_assoc, List.singleton_append, pair p x v (by omega) hp n (e :: c) (by omega) (.inr h), hk_cons, deepTs_cons, deepTs_nil]
          by_cases hdd : d + 1 + deepTr v ≤ 25
          · rw [if_pos hdd, if_neg (by omega), if_pos (.inr (by omega))]; rfl
          · rw [if_neg hdd, if_neg (fun k => k.elim (fun k => by cases k) (fun k => by omega))]
        | cons p x v m q ks ts hp h hq =>
          simp only [List.length_append, List.length_cons] at hl hn
          have ih2 := hD q ks ts (by omega) hq n d c (ks0 ++ [x]) (ts0 ++ [v]) (by omega)
          rw [List.append_assoc, List.cons_append, pair p x v (by omega) hp n (m :: (q ++ c)) (by omega) (.inl h), hk_cons, deepTs_cons]
          by_cases hdd : d + 1 + deepTr v ≤ 25
          · rw [if_pos hdd, if_pos h, List.tail_cons, ih2, List.append_assoc, List.append_assoc, List.singleton_append, List.singleton_append]
            by_cases hts : ts = []
            · subst hts; rw [if_pos (.inl rfl), deepTs_nil, if_pos (.inr (by omega))]
            · by_cases hd2 : d + 1 + deepTr.deepTs ts ≤ 25
              · rw [if_pos (.inr hd2), if_pos (.inr (by omega))]
              · rw [if_neg (fun k => k.elim hts hd2), if_neg (fun k => k.elim (fun k => by cases k) (fun k => by omega))]
          · rw [if_neg hdd, if_neg (fun k => k.elim (fun k => by cases k) (fun k => by omega))]

/-- What a value's pieces are read as. -/
theorem val_of {p : List Pc} {v : Tr} (h : PV p v) (n d : Nat) (c : List Pc) (hn : 2 * p.length ≤ n) : valF n d (p ++ c) = if d + deepTr v ≤ 25 then .ok v c else .bad 73 :=
  (complete p.length).1 p v (Nat.le_refl _) h n d c hn
theorem of_val {n d : Nat} {l : List Pc} {t : Tr} {rest : List Pc} (h : valF n d l = .ok t rest) : ∃ p, l = p ++ rest ∧ PV p t ∧ d + deepTr t ≤ 25 := (sound n).1 d l t rest h
end Go.Proofs.YtiinnnbpbnojgaaGreatDoor

/- What is proved: pieces of a value without the last ones are a mistake; the laws of Flow, as laws of what is read; no program stands in it. -/
namespace Go.Proofs.YtiinnnbpbnojgaaGreatDoor
open Go Go.RowKit Go.Lib
set_option linter.unusedSimpArgs false
set_option linter.unusedVariables false

theorem pair_of {p : List Pc} {x : Sc} {v : Tr} (hpp : PP p x v) (n d : Nat) (e : List Pc) (hn : 2 * p.length + 1 ≤ n) (hke : hk e = 7 ∨ hk e = 11) (ks0 : List Sc) (ts0 : List Tr) :
    dictF (n + 1) d (p ++ e) ks0 ts0 = if d + 1 + deepTr v ≤ 25 then (if hk e = 7 then dictF n d e.tail (ks0 ++ [x]) (ts0 ++ [v]) else .ok (mapTr (ks0 ++ [x]) (ts0 ++ [v])) e.tail) else .bad 73 := by
  cases hpp with
  | none k c2 h hc =>
    have hkk := key_kind h
    show dictF (n + 1) d (k :: c2 :: e) ks0 ts0 = _
    rw [dictF]
    rw [hk_cons, if_neg (by omega)]
    try simp only
    rw [if_neg (Decidable.not_not.2 h), hk_cons, if_neg (Decidable.not_not.2 hc), List.tail_cons, deep_tr0]
    by_cases hdd : 24 < d + 1
    · rw [if_pos hdd, if_neg (by omega)]
    · rw [if_neg hdd, if_pos (show d + 1 + 1 ≤ 25 by omega)]
      by_cases h7 : hk e = 7
      · rw [if_pos h7, if_pos h7]
      · rw [if_neg h7, if_neg h7, if_pos (by omega)]
  | some k c2 p v h hc hp =>
    have hkk := key_kind h
    have hh := pv_head hp
    have hpos := deep_pos v
    simp only [List.length_cons] at hn
    have ih := val_of hp n (d + 1) e (by omega)
    show dictF (n + 1) d (k :: c2 :: (p ++ e)) ks0 ts0 = _
    rw [dictF]
    rw [hk_cons, if_neg (by omega)]
    try simp only
    rw [if_neg (Decidable.not_not.2 h), hk_cons, if_neg (Decidable.not_not.2 hc), List.tail_cons, hk_app hh.1]
    by_cases hdd : 24 < d + 1
    · rw [if_pos hdd, if_neg (by omega)]
    · rw [if_neg hdd, if_neg (by omega), if_neg (by omega), ih]
      by_cases hd2 : d + 1 + deepTr v ≤ 25
      · rw [if_pos hd2, if_pos hd2]
        simp only
        by_cases h7 : hk e = 7
        · rw [if_pos h7, if_pos h7]
        · rw [if_neg h7, if_neg h7, if_pos (by omega)]
      · rw [if_neg hd2, if_neg hd2]

/-- A mistake of those that an end makes. -/
def Bd (r : FR) : Prop := ∃ e, (e = 91 ∨ e = 73) ∧ r = .bad e
theorem bd91 : Bd (.bad 91) := ⟨91, .inl rfl, rfl⟩
theorem bd73 : Bd (.bad 73) := ⟨73, .inr rfl, rfl⟩
theorem val_nil (n d : Nat) : Bd (valF n d []) := by
  cases n with
  | zero => rw [valF]; exact bd91
  | succ n =>
    rw [valF]
    split
    · exact bd73
    · exact bd91
theorem list_nil (n d : Nat) (acc : List Tr) : Bd (listF n d [] acc) := by
  cases n with
  | zero => rw [listF]; exact bd91
  | succ n =>
    rw [listF, if_neg (show ¬ hk [] = 9 by decide)]
    obtain ⟨e, he, h⟩ := val_nil n (d + 1)
    rw [h]
    exact ⟨e, he, rfl⟩
theorem dict_nil (n d : Nat) (ks : List Sc) (ts : List Tr) : Bd (dictF n d [] ks ts) := by
  cases n with
  | zero => rw [dictF]; exact bd91
  | succ n => rw [dictF, if_neg (show ¬ hk [] = 11 by decide)]; exact bd91
theorem app_split {p' s a b : List Pc} (hs : s ≠ []) (h : a ++ b = p' ++ s) : (∃ s1, s1 ≠ [] ∧ a = p' ++ s1) ∨ (∃ r, p' = a ++ r ∧ b = r ++ s) := by
  rcases List.append_eq_append_iff.1 h with ⟨as', h1, h2⟩ | ⟨cs', h1, h2⟩
  · exact .inr ⟨as', h1, h2⟩
  · by_cases hc : cs' = []
    · subst hc
      exact .inr ⟨[], by rw [List.append_nil] at h1 ⊢; exact h1.symm, by rw [List.nil_append] at h2 ⊢; exact h2.symm⟩
    · exact .inl ⟨cs', hc, h1⟩
theorem hk_pre {p' s : List Pc} (h : p' ≠ []) : hk p' = hk (p' ++ s) := (hk_app h).symm

def TV (N : Nat) : Prop := ∀ p v, p.length ≤ N → PV p v → ∀ p' s, p = p' ++ s → s ≠ [] → ∀ n d, 2 * p'.length ≤ n → Bd (valF n d p')
def TI (N : Nat) : Prop := ∀ p ts, p.length ≤ N → PI p ts → ∀ p' s, p = p' ++ s → s ≠ [] → ∀ n d acc, 2 * p'.length + 1 ≤ n → Bd (listF n d p' acc)
def TD (N : Nat) : Prop := ∀ p ks ts, p.length ≤ N → PD p ks ts → ∀ p' s, p = p' ++ s → s ≠ [] → ∀ n d ks0 ts0, 2 * p'.length + 1 ≤ n → Bd (dictF n d p' ks0 ts0)

/-- A value's pieces, and none behind, in a list. -/
theorem item_end {p : List Pc} {v : Tr} (hp : PV p v) (n d : Nat) (acc : List Tr) (hn : 2 * p.length ≤ n) : Bd (listF (n + 1) d p acc) := by
  have hh := pv_head hp
  have := val_of hp n (d + 1) [] hn
  rw [List.append_nil] at this
  rw [listF, if_neg (by omega), this]
  by_cases hd : d + 1 + deepTr v ≤ 25
  · rw [if_pos hd]
    simp only
    rw [if_neg (show ¬ hk [] = 7 by decide), if_neg (show ¬ hk [] = 9 by decide)]
    exact bd91
  · rw [if_neg hd]; exact bd73
theorem item_cut {p p' s : List Pc} {v : Tr} (hp : PV p v) (h : p = p' ++ s) (n d : Nat) (acc : List Tr) (hv : Bd (valF n (d + 1) p')) : Bd (listF (n + 1) d p' acc) := by
  by_cases hne : p' = []
  · subst hne; exact list_nil _ _ _
  · have hh := pv_head hp
    obtain ⟨e, he, hv⟩ := hv
    rw [listF, hk_pre (s := s) hne, ← h, if_neg (by omega), hv]
    exact ⟨e, he, rfl⟩
theorem one_cut {k : Pc} (h : (keyP k).2 = 0) (n d : Nat) (ks : List Sc) (ts : List Tr) : Bd (dictF (n + 1) d [k] ks ts) := by
  have hkk := key_kind h
  rw [dictF, hk_cons, if_neg (by omega)]
  try simp only
  rw [if_neg (Decidable.not_not.2 h), if_pos (show hk [] ≠ 6 by decide)]
  exact bd91
theorem two_cut {k c : Pc} (h : (keyP k).2 = 0) (hc : c.kind = 6) (l : List Pc) (h7 : hk l ≠ 7) (h11 : hk l ≠ 11) (n d : Nat) (ks : List Sc) (ts : List Tr)
    (hv : Bd (valF n (d + 1) l) ∨ ∃ v, valF n (d + 1) l = .ok v []) : Bd (dictF (n + 1) d (k :: c :: l) ks ts) := by
  have hkk := key_kind h
  rw [dictF, hk_cons, if_neg (by omega)]
  try simp only
  rw [if_neg (Decidable.not_not.2 h), hk_cons, if_neg (Decidable.not_not.2 hc), List.tail_cons]
  by_cases hdd : 24 < d + 1
  · rw [if_pos hdd]; exact bd73
  · rw [if_neg hdd, if_neg h7, if_neg h11]
    rcases hv with ⟨e, he, hv⟩ | ⟨v, hv⟩
    · rw [hv]; exact ⟨e, he, rfl⟩
    · rw [hv]
      simp only
      rw [if_neg (show ¬ hk [] = 7 by decide), if_neg (show ¬ hk [] = 11 by decide)]
      exact bd91
theorem trunc : ∀ N, TV N ∧ TI N ∧ TD N
  | 0 => ⟨fun p v h hp => absurd (List.eq_nil_of_length_eq_zero (by omega)) (pv_head hp).1, fun p v h hp => absurd (List.eq_nil_of_length_eq_zero (by omega)) (pi_pos hp), fun p k v h hp => absurd (List.eq_nil_of_length_eq_zero (by omega)) (pd_pos hp)⟩
  | N + 1 => by
    obtain ⟨hV, hI, hD⟩ := trunc N
    refine ⟨fun p v hl hp p' s hps hs n d hn => ?_, fun p ts hl hp p' s hps hs n d acc hn => ?_, fun p ks ts hl hp p' s hps hs n d ks0 ts0 hn => ?_⟩
    · cases p' with
      | nil => exact val_nil _ _
      | cons t' p'' =>
        cases n with
        | zero => rw [valF]; exact bd91
        | succ n =>
          cases hp with
          | key t h =>
            injection hps with h1 h2
            exact absurd (List.append_eq_nil_iff.1 h2.symm).2 hs
          | ali t h =>
            injection hps with h1 h2
            exact absurd (List.append_eq_nil_iff.1 h2.symm).2 hs
          | nam t q v h h2 h3 hp =>
            injection hps with h1 hq
            subst h1
            simp only [List.length_cons] at hl hn
            have ih := hV q v (by omega) hp p'' s hq hs n d (by omega)
            rw [valF]
            split
            · exact bd73
            · try simp only
              have hn3 : ¬ (hk p'' = 3 ∨ hk p'' = 4) := by
                by_cases hne : p'' = []
                · subst hne; decide
                · have hq : q = p'' ++ s := hq
                  rw [hk_pre (s := s) hne, ← hq]; omega
              obtain ⟨e, he, ih⟩ := ih
              try rw [if_pos h]
              rw [if_neg hn3, ih]
              exact ⟨e, he, rfl⟩
          | lst t q ts h hp =>
            injection hps with h1 hq
            subst h1
            simp only [List.length_cons] at hl hn
            have ih := hI q ts (by omega) hp p'' s hq hs n d [] (by omega)
            rw [valF]
            split
            · exact bd73
            · try simp only
              try rw [if_neg (show ¬ t.kind = 3 by omega)]
              try rw [if_neg (show ¬ t.kind = 4 by omega)]
              try rw [if_pos h]
              exact ih
          | dic t q ks ts h hp =>
            injection hps with h1 hq
            subst h1
            simp only [List.length_cons] at hl hn
            have ih := hD q ks ts (by omega) hp p'' s hq hs n d [] [] (by omega)
            rw [valF]
            split
            · exact bd73
            · try simp only
              try rw [if_neg (show ¬ t.kind = 3 by omega)]
              try rw [if_neg (show ¬ t.kind = 4 by omega)]
              try rw [if_neg (show ¬ t.kind = 8 by omega)]
              try rw [if_pos h]
              exact ih
    · cases n with
      | zero => rw [listF]; exact bd91
      | succ n =>
        cases hp with
        | nil c h =>
          cases p' with
          | nil => exact list_nil _ _ _
          | cons a r =>
            injection hps with h1 h2
            exact absurd (List.append_eq_nil_iff.1 h2.symm).2 hs
        | last p v c hp h =>
          simp only [List.length_append, List.length_cons, List.length_nil] at hl
          rcases app_split hs hps with ⟨s1, hs1, h1⟩ | ⟨r, h1, h2⟩
          · exact item_cut hp h1 n d acc (hV p v (by omega) hp p' s1 h1 hs1 n (d + 1) (by omega))
          · cases r with
            | nil =>
              rw [h1, List.append_nil] at hn ⊢
              exact item_end hp n d acc (by omega)
            | cons a r =>
              injection h2 with _ h3
              exact absurd (List.append_eq_nil_iff.1 h3.symm).2 hs
        | cons p v m q ts hp h hq =>
          simp only [List.length_append, List.length_cons] at hl
          rcases app_split hs hps with ⟨s1, hs1, h1⟩ | ⟨r, h1, h2⟩
          · exact item_cut hp h1 n d acc (hV p v (by omega) hp p' s1 h1 hs1 n (d + 1) (by omega))
          · cases r with
            | nil =>
              rw [h1, List.append_nil] at hn ⊢
              exact item_end hp n d acc (by omega)
            | cons a r =>
              injection h2 with h3 h4
              subst h3
              rw [h1, List.length_append, List.length_cons] at hn
              have ih := hI q ts (by omega) hq r s h4 hs n d (acc ++ [v]) (by omega)
              have hh := pv_head hp
              rw [h1, listF, hk_app hh.1, if_neg (by omega), val_of hp n (d + 1) (m :: r) (by omega)]
              by_cases hdd : d + 1 + deepTr v ≤ 25
              · rw [if_pos hdd]
                simp only
                rw [hk_cons, if_pos h]
                exact ih
              · rw [if_neg hdd]; exact bd73
    · cases n with
      | zero => rw [dictF]; exact bd91
      | succ n =>
        have pcut : ∀ (p : List Pc) (x : Sc) (v : Tr), p.length ≤ N → PP p x v → ∀ p' s1, s1 ≠ [] → p = p' ++ s1 → 2 * p'.length ≤ n → Bd (dictF (n + 1) d p' ks0 ts0) := by
          intro p x v hpl hpp p' s1 hs1 h1 hpn
          cases hpp with
          | none k c h hc =>
            cases p' with
            | nil => exact dict_nil _ _ _ _
            | cons a r =>
              injection h1 with e1 h1
              subst e1
              cases r with
              | nil => exact one_cut h n d ks0 ts0
              | cons b r =>
                injection h1 with _ h1
                exact absurd (List.append_eq_nil_iff.1 h1.symm).2 hs1
          | some k c p v h hc hp =>
            simp only [List.length_cons] at hpl
            cases p' with
            | nil => exact dict_nil _ _ _ _
            | cons a r =>
              injection h1 with e1 h1
              subst e1
              cases r with
              | nil => exact one_cut h n d ks0 ts0
              | cons b r =>
                injection h1 with e2 h1
                subst e2
                simp only [List.length_cons] at hpn
                have ih := hV p v (by omega) hp r s1 h1 hs1 n (d + 1) (by omega)
                have hh := pv_head hp
                have hr : hk r ≠ 7 ∧ hk r ≠ 11 := by
                  by_cases hne : r = []
                  · subst hne; decide
                  · have h1 : p = r ++ s1 := h1
                    rw [hk_pre (s := s1) hne, ← h1]; omega
                exact two_cut h hc r hr.1 hr.2 n d ks0 ts0 (.inl ih)
        have pend : ∀ (p : List Pc) (x : Sc) (v : Tr), PP p x v → 2 * p.length ≤ n → Bd (dictF (n + 1) d p ks0 ts0) := by
          intro p x v hpp hpn
          cases hpp with
          | none k c h hc => exact two_cut h hc [] (by decide) (by decide) n d ks0 ts0 (.inl (val_nil _ _))
          | some k c p v h hc hp =>
            simp only [List.length_cons] at hpn
            have hh := pv_head hp
            have := val_of hp n (d + 1) [] (by omega)
            rw [List.append_nil] at this
            refine two_cut h hc p (by omega) (by omega) n d ks0 ts0 ?_
            by_cases hdd : d + 1 + deepTr v ≤ 25
            · rw [if_pos hdd] at this; exact .inr ⟨v, this⟩
            · rw [if_neg hdd] at this; exact .inl ⟨73, .inr rfl, this⟩
        cases hp with
        | nil c h =>
          cases p' with
          | nil => exact dict_nil _ _ _ _
          | cons a r =>
            injection hps with h1 h2
            exact absurd (List.append_eq_nil_iff.1 h2.symm).2 hs
        | last p x v c hp h =>
          simp only [List.length_append, List.length_cons, List.length_nil] at hl
          rcases app_split hs hps with ⟨s1, hs1, h1⟩ | ⟨r, h1, h2⟩
          · exact pcut p x v (by omega) hp p' s1 hs1 h1 (by omega)
          · cases r with
            | nil =>
              rw [h1, List.append_nil] at hn ⊢
              exact pend p x v hp (by omega)
            | cons a r =>
              injection h2 with _ h3
              exact absurd (List.append_eq_nil_iff.1 h3.symm).2 hs
        | cons p x v m q ks ts hp h hq =>
          simp only [List.length_append, List.length_cons] at hl
          rcases app_split hs hps with ⟨s1, hs1, h1⟩ | ⟨r, h1, h2⟩
          · exact pcut p x v (by omega) hp p' s1 hs1 h1 (by omega)
          · cases r with
            | nil =>
              rw [h1, List.append_nil] at hn ⊢
              exact pend p x v hp (by omega)
            | cons a r =>
              injection h2 with h3 h4
              subst h3
              rw [h1, List.length_append, List.length_cons] at hn
              have ih := hD q ks ts (by omega) hq r s h4 hs n d (ks0 ++ [x]) (ts0 ++ [v]) (by omega)
              rw [h1, pair_of hp n d (m :: r) (by omega) (.inl h), hk_cons]
              by_cases hdd : d + 1 + deepTr v ≤ 25
              · rw [if_pos hdd, if_pos h]
                exact ih
              · rw [if_neg hdd]; exact bd73

/-! ### The laws -/
/-- Package flow's Value at the first place: what is read, and how many pieces. -/
def valueW (l : List Pc) : FR := valF (2 * l.length + 2) 1 l
/-- Package flow's Whole. -/
def wholeW (l : List Pc) : Tr × Int := match valueW l with
  | .ok t [] => (t, 0)
  | .ok _ (_ :: _) => (tr0, 91)
  | .bad e => (tr0, e)
theorem bad_ne : ∀ n, (∀ d l e, valF n d l = .bad e → e ≠ 0) ∧ (∀ d l acc e, listF n d l acc = .bad e → e ≠ 0) ∧ (∀ d l ks ts e, dictF n d l ks ts = .bad e → e ≠ 0)
  | 0 => ⟨fun d l e h => by rw [valF] at h; injection h with h; omega, fun d l acc e h => by rw [listF] at h; injection h with h; omega, fun d l ks ts e h => by rw [dictF] at h; injection h with h; omega⟩
  | n + 1 => by
    obtain ⟨hV, hI, hD⟩ := bad_ne n
    refine ⟨fun d l e h => ?_, fun d l acc e h => ?_, fun d l ks ts e h => ?_⟩
    · unfold valF at h
      split at h
      · injection h with h; omega
      · cases l with
        | nil => injection h with h; omega
        | cons t r =>
          try simp only at h
          split at h
          · split at h
            · injection h with h; omega
            · cases hv : valF n d r with
              | bad e2 => rw [hv] at h; injection h with h; subst h; exact hV _ _ _ hv
              | ok v rest => rw [hv] at h; cases h
          · split at h
            · cases h
            · split at h
              · exact hI _ _ _ _ h
              · split at h
                · exact hD _ _ _ _ _ h
                · split at h
                  · cases h
                  · injection h with h; subst h; assumption
    · unfold listF at h
      split at h
      · cases h
      · cases hv : valF n (d + 1) l with
        | bad e2 => rw [hv] at h; injection h with h; subst h; exact hV _ _ _ hv
        | ok v rest =>
          rw [hv] at h
          try simp only at h
          split at h
          · exact hI _ _ _ _ h
          · split at h
            · cases h
            · injection h with h; omega
    · unfold dictF at h
      split at h
      · cases h
      · cases l with
        | nil => injection h with h; omega
        | cons t r =>
          try simp only at h
          split at h
          · injection h with h; subst h; assumption
          · split at h
            · injection h with h; omega
            · split at h
              · injection h with h; omega
              · split at h
                · exact hD _ _ _ _ _ h
                · split at h
                  · cases h
                  · cases hv : valF n (d + 1) r.tail with
                    | bad e2 => rw [hv] at h; injection h with h; subst h; exact hV _ _ _ hv
                    | ok v rest =>
                      rw [hv] at h
                      try simp only at h
                      split at h
                      · exact hD _ _ _ _ _ h
                      · split at h
                        · cases h
                        · injection h with h; omega
theorem whole_ok {l : List Pc} {t : Tr} (h : wholeW l = (t, 0)) : PV l t ∧ deepTr t ≤ 24 := by
  unfold wholeW at h
  cases hv : valueW l with
  | bad e =>
    rw [hv] at h
    have he : e = 0 := congrArg Prod.snd h
    exact absurd he ((bad_ne _).1 _ _ _ hv)
  | ok v rest =>
    rw [hv] at h
    cases rest with
    | cons a r => have he : (91 : Int) = 0 := congrArg Prod.snd h; omega
    | nil =>
      obtain ⟨p, hp, hpv, hd⟩ := of_val hv
      rw [List.append_nil] at hp
      have : v = t := congrArg Prod.fst h
      subst this hp
      exact ⟨hpv, by omega⟩
theorem whole_of {l : List Pc} {t : Tr} (h : PV l t) : wholeW l = if deepTr t ≤ 24 then (t, 0) else (tr0, 73) := by
  have := val_of h (2 * l.length + 2) 1 [] (by omega)
  rw [List.append_nil] at this
  unfold wholeW valueW
  rw [this]
  by_cases hd : deepTr t ≤ 24
  · rw [if_pos (by omega), if_pos hd]
  · rw [if_neg (by omega), if_neg hd]
theorem whole_bad (l : List Pc) (h : (wholeW l).2 ≠ 0) : (wholeW l).1 = tr0 := by
  unfold wholeW at h ⊢
  cases hv : valueW l with
  | bad e => rfl
  | ok v rest =>
    rw [hv] at h
    cases rest with
    | nil => exact absurd rfl h
    | cons a r => rfl

/-- FlowMoves' law. -/
theorem moves_law {l : List Pc} {t : Tr} {rest : List Pc} (h : valueW l = .ok t rest) (b : List Pc) :
    ∃ p, l = p ++ rest ∧ 1 ≤ p.length ∧ ∀ n, 2 * p.length ≤ n → valF n 1 (p ++ b) = .ok t b := by
  obtain ⟨p, hp, hpv, hd⟩ := of_val h
  refine ⟨p, hp, List.length_pos_iff.2 (pv_head hpv).1, fun n hn => ?_⟩
  rw [val_of hpv n 1 b hn, if_pos hd]
/-- FlowWraps' law. -/
theorem wraps_law {l : List Pc} {t : Tr} (h : wholeW l = (t, 0)) (a c : Pc) (ha : a.kind = 8) (hc : c.kind = 9) :
    (deepTr t = 24 ∧ wholeW (a :: (l ++ [c])) = (tr0, 73)) ∨ (deepTr t < 24 ∧ wholeW (a :: (l ++ [c])) = (seqTr [t], 0)) := by
  obtain ⟨hp, hd⟩ := whole_ok h
  have hw := whole_of (PV.lst a (l ++ [c]) [t] ha (.last l t c hp hc))
  rw [deep_seq, deepTs_cons, deepTs_nil] at hw
  by_cases h24 : deepTr t = 24
  · exact .inl ⟨h24, by rw [hw, if_neg (by omega)]⟩
  · exact .inr ⟨by omega, by rw [hw, if_pos (by omega)]⟩
/-- FlowNames' law. -/
theorem names_law {l : List Pc} {t : Tr} (h : wholeW l = (t, 0)) (a : Pc) (ha : a.kind = 3) :
    l ≠ [] ∧ (((t.kind = 3 ∨ hk l = 3) ∧ wholeW (a :: l) = (tr0, 91)) ∨ (t.kind ≠ 3 ∧ hk l ≠ 3 ∧ wholeW (a :: l) = (t.named a.str, 0))) := by
  obtain ⟨hp, hd⟩ := whole_ok h
  refine ⟨(pv_head hp).1, ?_⟩
  have key : t.kind = 3 ∧ hk l ≠ 3 ↔ hk l = 4 := by
    cases hp with
    | key t hx => have := key_kind hx; rw [hk_cons]; simp only [oneTr, Tr.kind]; omega
    | ali t hx => rw [hk_cons, hx]; simp [refTr, Tr.kind]
    | nam t p v hx _ _ _ => rw [hk_cons, hx]; simp
    | lst t p ts hx _ => rw [hk_cons, hx]; simp [seqTr, Tr.kind]
    | dic t p ks ts hx _ => rw [hk_cons, hx]; simp [mapTr, Tr.kind]
  by_cases h3 : hk l = 3 ∨ hk l = 4
  · refine .inl ⟨?_, ?_⟩
    · rcases h3 with h3 | h3
      · exact .inr h3
      · exact .inl (key.2 h3).1
    · unfold wholeW valueW
      rw [List.length_cons, show 2 * (l.length + 1) + 2 = (2 * l.length + 3) + 1 by omega, valF, if_neg (by decide)]
      try simp only
      rw [if_pos ha, if_pos h3]
  · refine .inr ⟨fun k => h3 (.inr (key.1 ⟨k, fun k2 => h3 (.inl k2)⟩)), fun k => h3 (.inl k), ?_⟩
    rw [whole_of (PV.nam a l t ha (fun k => h3 (.inl k)) (fun k => h3 (.inr k)) hp), deep_named, if_pos hd]
theorem names_bad {l : List Pc} (h : (wholeW l).2 ≠ 0) (a : Pc) (ha : a.kind = 3) : (wholeW (a :: l)).2 ≠ 0 := by
  intro h2
  have e : wholeW (a :: l) = ((wholeW (a :: l)).1, 0) := Prod.ext rfl h2
  obtain ⟨hp, hd⟩ := whole_ok e
  generalize (wholeW (a :: l)).1 = t at hp hd
  cases hp with
  | key t hx => have := key_kind hx; omega
  | ali t hx => omega
  | nam t p v hx _ _ hp =>
    rw [deep_named] at hd
    exact h (by rw [whole_of hp, if_pos hd])
  | lst t p ts hx _ => omega
  | dic t p ks ts hx _ => omega
/-- FlowCuts' law. -/
theorem cuts_law {l : List Pc} {t : Tr} (h : wholeW l = (t, 0)) (n : Nat) (h1 : 1 ≤ n) (h2 : n ≤ l.length) :
    (wholeW (l.take (l.length - n))).1 = tr0 ∧ ((wholeW (l.take (l.length - n))).2 = 91 ∨ (wholeW (l.take (l.length - n))).2 = 73) := by
  obtain ⟨hp, hd⟩ := whole_ok h
  have hs : l.drop (l.length - n) ≠ [] := fun k => by
    have := congrArg List.length k
    rw [List.length_drop] at this
    simp at this; omega
  have key : Bd (valueW (l.take (l.length - n))) :=
    (trunc l.length).1 l t (Nat.le_refl _) hp (l.take (l.length - n)) (l.drop (l.length - n)) (List.take_append_drop _ _).symm hs _ 1 (by omega)
  obtain ⟨e, he, hv⟩ := key
  unfold wholeW
  rw [hv]
  exact ⟨rfl, he⟩
/-- FlowLists' law. -/
theorem lists_law {l : List Pc} {t : Tr} (h : wholeW l = (t, 0)) (a m c : Pc) (ha : a.kind = 8) (hm : m.kind = 7) (hc : c.kind = 9) :
    wholeW (a :: (l ++ m :: (l ++ [c]))) = if deepTr t < 24 then (seqTr [t, t], 0) else (tr0, 73) := by
  obtain ⟨hp, hd⟩ := whole_ok h
  have hw := whole_of (PV.lst a (l ++ m :: (l ++ [c])) [t, t] ha (.cons l t m (l ++ [c]) [t] hp hm (.last l t c hp hc)))
  rw [deep_seq, deepTs_cons, deepTs_cons, deepTs_nil] at hw
  rw [hw]
  by_cases h24 : deepTr t < 24
  · rw [if_pos (by omega), if_pos h24]
  · rw [if_neg (by omega), if_neg h24]
end Go.Proofs.YtiinnnbpbnojgaaGreatDoor
