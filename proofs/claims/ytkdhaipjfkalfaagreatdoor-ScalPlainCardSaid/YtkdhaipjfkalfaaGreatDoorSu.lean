import Derived.Test.YtkdhaipjfkalfaaGreatDoorSa
import Derived.Sort.LotA
import Derived.Shelf.SlSortCmp.Insertion
/- What is proved: lists in order, as functions; no program stands in it. -/
namespace Go.Proofs.YtkdhaipjfkalfaaGreatDoor
open Go Go.RowKit Go.Lib Go.Sort
set_option linter.unusedSimpArgs false
set_option linter.unusedVariables false
set_option linter.unusedSectionVars false

variable {α : Type} [Inhabited α]
theorem swo_of {c : α → α → Int} (hg : Good c) : SWO (ltOf c) := by
  have key : ∀ x y, ltOf c x y = true ↔ c x y = -1 := fun x y => by
    unfold ltOf
    rw [decide_eq_true_eq]
    have := hg.rng x y
    omega
  have keyf : ∀ x y, ltOf c x y = false ↔ (c y x = -1 ∨ x = y) := fun x y => by
    unfold ltOf
    rw [decide_eq_false_iff_not]
    have h1 := hg.rng x y
    have h2 := hg.sym x y
    constructor
    · intro h
      rcases h1 with h1 | h1 | h1
      · omega
      · exact .inr ((hg.eq _ _).1 h1)
      · exact .inl (by omega)
    · rintro (h | h)
      · omega
      · rw [(hg.eq _ _).2 h]; decide
  refine ⟨fun x => (keyf x x).2 (.inr rfl), fun x y z h1 h2 => (key _ _).2 (hg.tr _ _ _ ((key _ _).1 h1) ((key _ _).1 h2)), fun x y z h1 h2 => (keyf _ _).2 ?_⟩
  rcases (keyf _ _).1 h1 with h1 | h1
  · rcases (keyf _ _).1 h2 with h2 | h2
    · exact .inl (hg.tr _ _ _ h2 h1)
    · exact .inl (by rw [← h2]; exact h1)
  · rw [h1]; exact (keyf _ _).1 h2
theorem anti_of {c : α → α → Int} (hg : Good c) (x y : α) (h1 : ltOf c x y = false) (h2 : ltOf c y x = false) : x = y := by
  unfold ltOf at h1 h2
  rw [decide_eq_false_iff_not] at h1 h2
  have h := hg.rng x y
  have := hg.sym x y
  exact (hg.eq _ _).1 (by omega)
/-- A list, in order. -/
def sortL (c : α → α → Int) (l : List α) : List α := l.mergeSort (fun x y => !ltOf c y x)
theorem sortL_of_array {c : α → α → Int} (hg : Good c) {d d' : Array α} (hp : PermIn 0 d.size d d') (hs : SortedIn (ltOf c) 0 d.size d') : d'.toList = sortL c d.toList :=
  sorted_unique_holds (swo_of hg) (anti_of hg) d d' hp hs
theorem sortL_perm (c : α → α → Int) (l : List α) : (sortL c l).Perm l := List.mergeSort_perm _ _
theorem length_sortL (c : α → α → Int) (l : List α) : (sortL c l).length = l.length := (sortL_perm c l).length_eq
theorem sortL_sorted {c : α → α → Int} (hg : Good c) (l : List α) : (sortL c l).Pairwise (fun x y => c x y ≤ 0) := by
  have hS := swo_of hg
  have := List.pairwise_mergeSort (le := fun x y => !ltOf c y x) (by
    intro a b d h1 h2
    simp only [Bool.not_eq_true'] at h1 h2 ⊢
    exact hS.ntrans d b a h2 h1) (by
    intro a b
    cases h : ltOf c b a with
    | false => simp
    | true => simp [hS.asymmA h]) l
  refine this.imp (fun {a b} h => ?_)
  simp only [Bool.not_eq_true', ltOf, decide_eq_false_iff_not] at h
  have := hg.sym a b
  omega
theorem sorted_unique {c : α → α → Int} (hg : Good c) {l m : List α} (h1 : l.Pairwise (fun x y => c x y ≤ 0)) (h2 : m.Pairwise (fun x y => c x y ≤ 0)) (hp : l.Perm m) : l = m :=
  List.Perm.eq_of_pairwise (le := fun x y => c x y ≤ 0) (fun a b _ _ k1 k2 => by
    have := hg.sym a b
    exact (hg.eq a b).1 (by omega)) h1 h2 hp
theorem sortL_of {c : α → α → Int} (hg : Good c) {l m : List α} (h1 : m.Pairwise (fun x y => c x y ≤ 0)) (hp : m.Perm l) : m = sortL c l :=
  sorted_unique hg h1 (sortL_sorted hg l) (hp.trans (sortL_perm c l).symm)
theorem sortL_congr {c : α → α → Int} (hg : Good c) {l m : List α} (hp : l.Perm m) : sortL c l = sortL c m :=
  sortL_of hg (sortL_sorted hg l) ((sortL_perm c l).trans hp)
theorem sortL_idem {c : α → α → Int} (hg : Good c) (l : List α) : sortL c (sortL c l) = sortL c l := sortL_congr hg (sortL_perm c l)
/-- One is put where it belongs. -/
def insL (c : α → α → Int) (x : α) : List α → List α
  | [] => [x]
  | y :: r => if c x y < 0 then x :: y :: r else y :: insL c x r
/-- The document's sort. -/
def refSort (c : α → α → Int) (l : List α) : List α := l.foldl (fun out x => insL c x out) []
theorem insL_perm (c : α → α → Int) (x : α) : ∀ l : List α, (insL c x l).Perm (x :: l)
  | [] => List.Perm.refl _
  | y :: r => by
    unfold insL
    split
    · exact List.Perm.refl _
    · exact ((insL_perm c x r).cons y).trans (List.Perm.swap x y r)
theorem insL_sorted {c : α → α → Int} (hg : Good c) (x : α) : ∀ l : List α, l.Pairwise (fun x y => c x y ≤ 0) → (insL c x l).Pairwise (fun x y => c x y ≤ 0)
  | [], _ => List.pairwise_singleton _ _
  | y :: r, h => by
    unfold insL
    rw [List.pairwise_cons] at h
    have tr : ∀ a b d : α, c a b ≤ 0 → c b d ≤ 0 → c a d ≤ 0 := fun a b d h1 h2 => by
      have hS := swo_of hg
      have k1 : ltOf c b a = false := decide_eq_false (by have := hg.sym a b; omega)
      have k2 : ltOf c d b = false := decide_eq_false (by have := hg.sym b d; omega)
      have k3 : ltOf c d a = false := hS.ntrans _ _ _ k2 k1
      have := hg.sym a d
      unfold ltOf at k3
      rw [decide_eq_false_iff_not] at k3
      omega
    split
    · rename_i hc
      rw [List.pairwise_cons]
      refine ⟨fun z hz => ?_, List.pairwise_cons.2 h⟩
      rcases List.mem_cons.1 hz with rfl | hz
      · omega
      · exact tr _ _ _ (by omega) (h.1 z hz)
    · rename_i hc
      rw [List.pairwise_cons]
      refine ⟨fun z hz => ?_, insL_sorted hg x r h.2⟩
      rcases List.mem_cons.1 ((insL_perm c x r).mem_iff.1 hz) with rfl | hz
      · have := hg.sym z y; omega
      · exact h.1 z hz
theorem refSort_gen {c : α → α → Int} (hg : Good c) : ∀ (l out : List α), out.Pairwise (fun x y => c x y ≤ 0) → (l.foldl (fun out x => insL c x out) out).Pairwise (fun x y => c x y ≤ 0) ∧ (l.foldl (fun out x => insL c x out) out).Perm (out ++ l)
  | [], out, h => ⟨h, by rw [List.append_nil]; exact List.Perm.refl _⟩
  | x :: l, out, h => by
    obtain ⟨h1, h2⟩ := refSort_gen hg l (insL c x out) (insL_sorted hg x out h)
    refine ⟨h1, h2.trans ?_⟩
    have := (insL_perm c x out).append_right l
    refine this.trans ?_
    exact List.perm_middle.symm
theorem refSort_eq {c : α → α → Int} (hg : Good c) (l : List α) : refSort c l = sortL c l := by
  obtain ⟨h1, h2⟩ := refSort_gen hg l [] List.Pairwise.nil
  rw [List.nil_append] at h2
  exact sortL_of hg h1 h2
/-- The document's loop: what is there, and whether the one is in it. -/
def insStep (c : α → α → Int) (x : α) (p : List α × Bool) (y : α) : List α × Bool := if p.2 = false ∧ c x y < 0 then (p.1 ++ [x] ++ [y], true) else (p.1 ++ [y], p.2)
theorem ins_true (c : α → α → Int) (x : α) : ∀ (l pre : List α), l.foldl (insStep c x) (pre, true) = (pre ++ l, true)
  | [], pre => by simp
  | y :: r, pre => by
    have : insStep c x (pre, true) y = (pre ++ [y], true) := if_neg (fun h => by cases h.1)
    rw [List.foldl_cons, this, ins_true c x r, List.append_assoc, List.singleton_append]
def insEnd (x : α) (p : List α × Bool) : List α := if p.2 then p.1 else p.1 ++ [x]
theorem ins_fold (c : α → α → Int) (x : α) : ∀ (l pre : List α), insEnd x (l.foldl (insStep c x) (pre, false)) = pre ++ insL c x l
  | [], pre => rfl
  | y :: r, pre => by
    rw [List.foldl_cons]
    unfold insL
    by_cases h : c x y < 0
    · have : insStep c x (pre, false) y = (pre ++ [x] ++ [y], true) := if_pos ⟨rfl, h⟩
      rw [this, ins_true, if_pos h]
      simp [insEnd]
    · have : insStep c x (pre, false) y = (pre ++ [y], false) := if_neg (fun k => h k.2)
      rw [this, ins_fold c x r, if_neg h, List.append_assoc, List.singleton_append]
theorem fold_take {β : Type} (f : β → α → β) (b : β) (l : List α) (k : Nat) (h : k < l.length) : (l.take (k + 1)).foldl f b = f ((l.take k).foldl f b) l[k] := by
  rw [List.take_add_one, List.foldl_append, List.getElem?_eq_getElem h]
  rfl
/-- Is one there twice? -/
def dupL [DecidableEq α] (l : List α) : Bool := !decide l.Nodup
theorem dup_perm [DecidableEq α] {l m : List α} (h : l.Perm m) : dupL l = dupL m := by
  unfold dupL
  congr 1
  exact decide_eq_decide.2 h.nodup_iff
theorem dup_self [DecidableEq α] (l : List α) : dupL (l ++ l) = decide (0 < l.length) := by
  unfold dupL
  cases l with
  | nil => simp
  | cons a r => simp
theorem dup_left [DecidableEq α] (l m : List α) (h : dupL l = true) : dupL (l ++ m) = true := by
  unfold dupL at h ⊢
  simp only [Bool.not_eq_true', decide_eq_false_iff_not] at h ⊢
  intro k
  exact h (List.nodup_append.1 k).1
theorem nodup_take [DecidableEq α] {l : List α} {k : Nat} (h : k < l.length) (h1 : (l.take k).Nodup) (h2 : l[k] ∉ l.take k) : (l.take (k + 1)).Nodup := by
  rw [List.take_add_one, List.getElem?_eq_getElem h]
  rw [List.nodup_append]
  refine ⟨h1, by simp, fun a ha b hb => ?_⟩
  simp only [Option.toList_some, List.mem_singleton] at hb
  subst hb
  rintro rfl
  exact h2 ha
theorem dup_at [DecidableEq α] {l : List α} {k : Nat} (h : k < l.length) (h2 : l[k] ∈ l.take k) : dupL l = true := by
  unfold dupL
  simp only [Bool.not_eq_true', decide_eq_false_iff_not]
  intro hn
  rw [← List.take_append_drop k l] at hn
  have := (List.nodup_append.1 hn).2.2 _ h2 (l[k]) (by rw [List.mem_iff_getElem?]; exact ⟨0, by rw [List.getElem?_drop, Nat.add_zero, List.getElem?_eq_getElem h]⟩)
  exact this rfl
theorem dup_none [DecidableEq α] {l : List α} (h : (l.take l.length).Nodup) : dupL l = false := by
  unfold dupL
  rw [List.take_length] at h
  simp [h]
end Go.Proofs.YtkdhaipjfkalfaaGreatDoor
