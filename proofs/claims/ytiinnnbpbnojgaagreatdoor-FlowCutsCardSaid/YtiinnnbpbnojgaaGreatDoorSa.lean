import Derived.Test.YtiinnnbpbnojgaaGreatDoorWj
import Derived.Laws.Strings
/- What is proved: an order of scalars, as a function; it is one: no program stands in it. -/
namespace Go.Proofs.YtiinnnbpbnojgaaGreatDoor
open Go Go.RowKit Go.Lib
set_option linter.unusedSimpArgs false
set_option linter.unusedVariables false

/-- A comparison that is an order, of whatever. -/
structure Good {α : Type} (c : α → α → Int) : Prop where
  rng : ∀ x y, c x y = -1 ∨ c x y = 0 ∨ c x y = 1
  sym : ∀ x y, c y x = - c x y
  eq : ∀ x y, c x y = 0 ↔ x = y
  tr : ∀ x y z, c x y = -1 → c y z = -1 → c x z = -1
def cmpI (a b : Int) : Int := if a < b then -1 else if b < a then 1 else 0
theorem good_I : Good cmpI := by
  constructor
  · intro x y; unfold cmpI; split; exact .inl rfl; split; exact .inr (.inr rfl); exact .inr (.inl rfl)
  · intro x y
    unfold cmpI
    by_cases h1 : x < y <;> by_cases h2 : y < x <;> simp [h1, h2] <;> omega
  · intro x y
    unfold cmpI
    by_cases h1 : x < y
    · rw [if_pos h1]; constructor
      · intro h; cases h
      · intro h; omega
    · by_cases h2 : y < x
      · rw [if_neg h1, if_pos h2]; constructor
        · intro h; cases h
        · intro h; omega
      · rw [if_neg h1, if_neg h2]; constructor
        · intro _; omega
        · intro _; rfl
  · intro x y z
    unfold cmpI
    intro h1 h2
    by_cases a : x < y
    · by_cases b : y < z
      · rw [if_pos (by omega)]
      · rw [if_neg b] at h2; split at h2 <;> cases h2
    · rw [if_neg a] at h1; split at h1 <;> cases h1
/-- Two comparisons, one behind the other. -/
def lex2 {α β : Type} (c : α → α → Int) (d : β → β → Int) (x y : α × β) : Int := if c x.1 y.1 = 0 then d x.2 y.2 else c x.1 y.1
theorem good_lex {α β : Type} {c : α → α → Int} {d : β → β → Int} (hc : Good c) (hd : Good d) : Good (lex2 c d) := by
  constructor
  · intro x y; unfold lex2; split
    · exact hd.rng _ _
    · exact hc.rng _ _
  · intro x y
    unfold lex2
    rw [hc.sym]
    by_cases h : c x.1 y.1 = 0
    · rw [if_pos (by omega), if_pos h, hd.sym]
    · rw [if_neg (by omega), if_neg h]
  · intro x y
    unfold lex2
    by_cases h : c x.1 y.1 = 0
    · rw [if_pos h, hd.eq]
      have := (hc.eq _ _).1 h
      constructor
      · intro h2; exact Prod.ext this h2
      · intro h2; rw [h2]
    · rw [if_neg h]
      constructor
      · intro h2; exact absurd h2 h
      · intro h2; exact absurd ((hc.eq _ _).2 (by rw [h2])) h
  · intro x y z
    unfold lex2
    intro h1 h2
    by_cases a : c x.1 y.1 = 0
    · rw [if_pos a] at h1
      have ea := (hc.eq _ _).1 a
      rw [ea]
      by_cases b : c y.1 z.1 = 0
      · rw [if_pos b] at h2 ⊢
        exact hd.tr _ _ _ h1 h2
      · rw [if_neg b] at h2 ⊢
        exact h2
    · rw [if_neg a] at h1
      by_cases b : c y.1 z.1 = 0
      · have eb := (hc.eq _ _).1 b
        rw [← eb, if_neg a]
        exact h1
      · rw [if_neg b] at h2
        have := hc.tr _ _ _ h1 h2
        rw [if_neg (by rw [this]; decide)]
        exact this
def cmpL : List UInt8 → List UInt8 → Int
  | [], [] => 0
  | [], _ :: _ => -1
  | _ :: _, [] => 1
  | a :: x, b :: y => if a.toNat < b.toNat then -1 else if b.toNat < a.toNat then 1 else cmpL x y
theorem good_L : Good cmpL := by
  constructor
  · intro x
    induction x with
    | nil => intro y; cases y; exact .inr (.inl rfl); exact .inl rfl
    | cons a x ih =>
      intro y
      cases y with
      | nil => exact .inr (.inr rfl)
      | cons b y =>
        unfold cmpL
        split
        · exact .inl rfl
        · split
          · exact .inr (.inr rfl)
          · exact ih y
  · intro x
    induction x with
    | nil => intro y; cases y <;> rfl
    | cons a x ih =>
      intro y
      cases y with
      | nil => rfl
      | cons b y =>
        show (if b.toNat < a.toNat then (-1 : Int) else if a.toNat < b.toNat then 1 else cmpL y x) = -(if a.toNat < b.toNat then (-1 : Int) else if b.toNat < a.toNat then 1 else cmpL x y)
        rcases Nat.lt_trichotomy a.toNat b.toNat with h | h | h
        · rw [if_neg (by omega), if_pos h, if_pos h]; rfl
        · rw [if_neg (by omega), if_neg (by omega), if_neg (by omega), if_neg (by omega)]; exact ih y
        · rw [if_pos h, if_neg (by omega), if_pos h]
  · intro x
    induction x with
    | nil =>
      intro y
      cases y with
      | nil => exact ⟨fun _ => rfl, fun _ => rfl⟩
      | cons b y => exact ⟨(fun h => by cases h), (fun h => by cases h)⟩
    | cons a x ih =>
      intro y
      cases y with
      | nil => exact ⟨(fun h => by cases h), (fun h => by cases h)⟩
      | cons b y =>
        show (if a.toNat < b.toNat then (-1 : Int) else if b.toNat < a.toNat then 1 else cmpL x y) = 0 ↔ _
        rcases Nat.lt_trichotomy a.toNat b.toNat with h | h | h
        · rw [if_pos h]
          exact ⟨(fun e => by cases e), (fun e => by injection e with e1 e2; subst e1; omega)⟩
        · rw [if_neg (by omega), if_neg (by omega), ih]
          have hab : a = b := UInt8.toNat_inj.1 h
          exact ⟨(fun e => by rw [hab, e]), (fun e => by injection e)⟩
        · rw [if_neg (by omega), if_pos h]
          exact ⟨(fun e => by cases e), (fun e => by injection e with e1 e2; subst e1; omega)⟩
  · intro x
    induction x with
    | nil =>
      intro y z h1 h2
      cases z with
      | nil => cases y <;> cases h2
      | cons c z => rfl
    | cons a x ih =>
      intro y z h1 h2
      cases y with
      | nil => cases h1
      | cons b y =>
        cases z with
        | nil => cases h2
        | cons c z =>
          have e1 : (if a.toNat < b.toNat then (-1 : Int) else if b.toNat < a.toNat then 1 else cmpL x y) = -1 := h1
          have e2 : (if b.toNat < c.toNat then (-1 : Int) else if c.toNat < b.toNat then 1 else cmpL y z) = -1 := h2
          show (if a.toNat < c.toNat then (-1 : Int) else if c.toNat < a.toNat then 1 else cmpL x z) = -1
          rcases Nat.lt_trichotomy a.toNat b.toNat with h | h | h
          · rcases Nat.lt_trichotomy b.toNat c.toNat with k | k | k
            · rw [if_pos (by omega)]
            · rw [if_pos (by omega)]
            · rw [if_neg (by omega), if_pos k] at e2; cases e2
          · rw [if_neg (by omega), if_neg (by omega)] at e1
            rcases Nat.lt_trichotomy b.toNat c.toNat with k | k | k
            · rw [if_pos (by omega)]
            · rw [if_neg (by omega), if_neg (by omega)] at e2
              rw [if_neg (by omega), if_neg (by omega)]
              exact ih y z e1 e2
            · rw [if_neg (by omega), if_pos k] at e2; cases e2
          · rw [if_neg (by omega), if_pos h] at e1; cases e1
/-- What Go says of two texts. -/
theorem less_L : ∀ x y : List UInt8, Op.bytesLess x y = decide (cmpL x y = -1)
  | [], [] => rfl
  | [], _ :: _ => rfl
  | _ :: _, [] => rfl
  | a :: x, b :: y => by
    show (decide (a < b) || (a == b && Op.bytesLess x y)) = decide ((if a.toNat < b.toNat then (-1 : Int) else if b.toNat < a.toNat then 1 else cmpL x y) = -1)
    rw [less_L x y]
    have hlt : (a < b) ↔ a.toNat < b.toNat := UInt8.lt_iff_toNat_lt
    rcases Nat.lt_trichotomy a.toNat b.toNat with h | h | h
    · rw [if_pos h, decide_eq_true (hlt.2 h)]; rfl
    · have hab : a = b := UInt8.toNat_inj.1 h
      rw [if_neg (by omega), if_neg (by omega), decide_eq_false (fun e => by have := hlt.1 e; omega)]
      subst hab
      simp
    · have hne : (a == b) = false := by rw [beq_eq_false_iff_ne]; rintro rfl; omega
      rw [if_neg (by omega), if_pos h, decide_eq_false (fun e => by have := hlt.1 e; omega), hne]; rfl

/-- The order of scalars. -/
def keySc (x : Sc) : Int × Int × List UInt8 := (x.kind, x.num, x.str.data.toList)
def cmpSc (x y : Sc) : Int := lex2 cmpI (lex2 cmpI cmpL) (keySc x) (keySc y)
theorem key_inj {x y : Sc} (h : keySc x = keySc y) : x = y := by
  obtain ⟨k, n, s⟩ := x
  obtain ⟨k2, n2, s2⟩ := y
  simp only [keySc, Prod.mk.injEq] at h
  obtain ⟨rfl, rfl, h⟩ := h
  have : s = s2 := by
    cases s; cases s2
    simp only at h
    congr 1
    exact Array.toList_inj.1 h
  rw [this]
theorem good_Sc : Good cmpSc := by
  have hg := good_lex good_I (good_lex good_I good_L)
  exact ⟨fun x y => hg.rng _ _, fun x y => hg.sym _ _, fun x y => ⟨fun h => key_inj ((hg.eq _ _).1 h), fun h => (hg.eq _ _).2 (by rw [h])⟩, fun x y z => hg.tr _ _ _⟩
/-- ScalOrder's law. -/
theorem order_law {α : Type} {c : α → α → Int} (hg : Good c) (x y z : α) : c x y = - c y x ∧ (c x y > 0 ∨ c y z > 0 ∨ c x z ≤ 0) ∧ (c x y ≥ 0 ∨ c y z ≥ 0 ∨ c x z < 0) ∧ c x x = 0 := by
  have h1 := hg.rng x y
  have h2 := hg.rng y z
  have h3 := hg.rng x z
  have s1 := hg.sym x y
  refine ⟨by omega, ?_, ?_, (hg.eq x x).2 rfl⟩
  · rcases h1 with h1 | h1 | h1
    · rcases h2 with h2 | h2 | h2
      · have := hg.tr _ _ _ h1 h2; omega
      · have e := (hg.eq _ _).1 h2; subst e; omega
      · omega
    · have e := (hg.eq _ _).1 h1; subst e
      omega
    · omega
  · rcases h1 with h1 | h1 | h1
    · rcases h2 with h2 | h2 | h2
      · have := hg.tr _ _ _ h1 h2; omega
      · omega
      · omega
    · omega
    · omega
end Go.Proofs.YtiinnnbpbnojgaaGreatDoor
