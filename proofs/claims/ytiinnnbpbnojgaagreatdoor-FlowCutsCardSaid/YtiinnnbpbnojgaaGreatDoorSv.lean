import Derived.Test.YtiinnnbpbnojgaaGreatDoorSa
import Derived.Deep.DeepCutAuto
import Derived.Deep.CutRange
import Derived.Deep.LoopGhost
import Derived.Deep.QuietTactic
import Derived.BigQuiet
import Derived.Laws.StructEq
/- What is proved: slices of scalars, as lists; the reference's Same at these. -/
namespace Go.Proofs.YtiinnnbpbnojgaaGreatDoor
open Go Go.RowKit Go.Lib
set_option linter.unusedSimpArgs false
set_option linter.unusedVariables false

instance : DecidableEq Sc := fun x y => decidable_of_iff (keySc x = keySc y) ⟨key_inj, fun h => by rw [h]⟩
instance : Inhabited Sc := ⟨sc0⟩
theorem eql_sc (k1 n1 k2 n2 : Int) (s1 s2 : ByteArray) (w : World) :
    (binOp .eql 26 (.agg #[.int .i64 k1, .int .i64 n1, .string s1]) (.agg #[.int .i64 k2, .int .i64 n2, .string s2])).run Tryz.prog w = .ok (.bool (k1 == k2 && (n1 == n2 && s1.toList == s2.toList))) w := by
  rw [run_eql_struct]
  cases h1 : (k1 == k2) <;> cases h2 : (n1 == n2) <;> cases h3 : (s1.toList == s2.toList) <;> go_simp
theorem neq_sc (k1 n1 k2 n2 : Int) (s1 s2 : ByteArray) (w : World) :
    (binOp .neq 26 (.agg #[.int .i64 k1, .int .i64 n1, .string s1]) (.agg #[.int .i64 k2, .int .i64 n2, .string s2])).run Tryz.prog w = .ok (.bool (!(k1 == k2 && (n1 == n2 && s1.toList == s2.toList)))) w := by
  rw [run_neq_struct]
  cases h1 : (k1 == k2) <;> cases h2 : (n1 == n2) <;> cases h3 : (s1.toList == s2.toList) <;> go_simp
theorem sc_eq (x y : Sc) : ((x.kind : Int) == (y.kind : Int) && ((x.num : Int) == (y.num : Int) && x.str.toList == y.str.toList)) = decide (x = y) := by
  rw [Lib.toList_data, Lib.toList_data, Bool.eq_iff_iff]
  simp only [Bool.and_eq_true, beq_iff_eq, decide_eq_true_eq]
  constructor
  · rintro ⟨h1, h2, h3⟩
    exact key_inj (by simp [keySc, h1, h2, h3])
  · rintro rfl; exact ⟨rfl, rfl, rfl⟩
def scCells (x : Sc) : List Value := [.int .i64 x.kind, .int .i64 x.num, .string x.str]
/-- A slice of scalars that reads as a list. -/
def ScIn (w : World) (v : Value) (ts : List Sc) : Prop :=
  ∃ (A : Option Addr) (cap : Nat), v = .slice A ts.length cap ∧ ∀ k, k < ts.length → ∃ (b o : Nat), A = some ⟨b, o, none⟩ ∧ b < w.heap.size ∧
    w.cell? ⟨b, o + k * 3, none⟩ = some (.int .i64 (ts.getD k sc0).kind) ∧ w.cell? ⟨b, o + k * 3 + 1, none⟩ = some (.int .i64 (ts.getD k sc0).num) ∧ w.cell? ⟨b, o + k * 3 + 2, none⟩ = some (.string (ts.getD k sc0).str)
theorem ScIn.nil (w : World) : ScIn w (.slice none 0 0) [] := ⟨none, 0, rfl, fun k h => by simp at h⟩
theorem ScIn.below {w w' : World} {v : Value} {ts : List Sc} (h : ScIn w v ts) (hb : Below w.heap.size w w') : ScIn w' v ts := by
  obtain ⟨A, cap, hv, hc⟩ := h
  refine ⟨A, cap, hv, fun k hk => ?_⟩
  obtain ⟨b, o, ha, hlt, h0, h1, h2⟩ := hc k hk
  exact ⟨b, o, ha, Nat.lt_of_lt_of_le hlt hb.size, (hb.cell (p := ⟨b, o + k * 3, none⟩) hlt).trans h0, (hb.cell (p := ⟨b, o + k * 3 + 1, none⟩) hlt).trans h1, (hb.cell (p := ⟨b, o + k * 3 + 2, none⟩) hlt).trans h2⟩
theorem take_eqS {xs ys : List Sc} {k : Nat} (hx : k < xs.length) (hy : k < ys.length) (h : xs.take k = ys.take k) :
    (xs.getD k sc0 = ys.getD k sc0 → xs.take (k + 1) = ys.take (k + 1)) ∧ (¬ xs.getD k sc0 = ys.getD k sc0 → ¬ xs = ys) := by
  refine ⟨fun e => ?_, fun e e2 => e (by rw [e2])⟩
  rw [List.take_succ_eq_append_getElem hx, List.take_succ_eq_append_getElem hy, h]
  simp only [List.getD, List.getElem?_eq_getElem hx, List.getElem?_eq_getElem hy, Option.getD_some] at e
  rw [e]

set_option maxRecDepth 100000 in
theorem refSame06_any (u v : Value) (xs ys : List Sc) (w : World) (hx : ScIn w u xs) (hy : ScIn w v ys) (hl : xs.length ≤ 1000000) (hm : ys.length ≤ 1000000) :
    Calls Tryz.prog 43 #[u, v] w fun e w' => e = .returned (.bool (decide (xs = ys))) ∧ Below w.heap.size w w' := by
  obtain ⟨A, ca, rfl, hA⟩ := hx
  obtain ⟨B, cb, rfl, hB⟩ := hy
  by_cases hne : xs.length = ys.length
  · obtain ⟨n, hn⟩ : ∃ n, xs.length = n := ⟨_, rfl⟩
    rw [hn] at hne hA hl ⊢
    rw [← hne] at hB hm ⊢
    have HN := hid (And.intro hn hne)
    clear hn hne
    go_enter Tryz.func43, Tryz.ntmps43
    go_wp2
    go_loopw [5] (fun i wr => (∃ q, wr = w.drewN q) ∧ ∃ k : Nat, k ≤ n ∧ i = .int .i64 k ∧ Hid (xs.take k = ys.take k)) (fun i _ => n - (intOf i).toNat)
    case atStart => exact ⟨⟨0, rfl⟩, 0, by omega, rfl, hid rfl⟩
    case round =>
      obtain ⟨⟨q0, rfl⟩, k, hk, rfl, HI⟩ := hrel
      by_cases hlt : k < n
      · obtain ⟨a, o, rfl, ha, a0, a1, a2⟩ := hA k hlt
        obtain ⟨b, o2, rfl, hb, b0, b1, b2⟩ := hB k hlt
        obtain ⟨⟨k1, p1, s1⟩, hx⟩ : ∃ x, xs.getD k sc0 = x := ⟨_, rfl⟩
        obtain ⟨⟨k2, p2, s2⟩, hy⟩ : ∃ x, ys.getD k sc0 = x := ⟨_, rfl⟩
        rw [hx] at a0 a1 a2
        rw [hy] at b0 b1 b2
        have HX := hid (And.intro hx hy)
        clear hx hy
        clear hA hB
        have hki : (k : Int) < (n : Int) := by omega
        go_wp2
        obtain ⟨bb, hbb⟩ : ∃ bb, ((k1 : Int) == (k2 : Int) && ((p1 : Int) == (p2 : Int) && s1.toList == s2.toList)) = bb := ⟨_, rfl⟩
        have hE := fun wx => neq_sc k1 p1 k2 p2 s1 s2 wx
        rw [hbb] at hE
        have HB := hid (show decide ((⟨k1, p1, s1⟩ : Sc) = ⟨k2, p2, s2⟩) = bb from (sc_eq ⟨k1, p1, s1⟩ ⟨k2, p2, s2⟩).symm.trans hbb)
        clear hbb
        have HT := hid (take_eqS (xs := xs) (ys := ys) (k := k) (by have := HN.out; omega) (by have := HN.out; omega) HI.out)
        go_quiet (fail)
        cases bb with
        | true =>
          have HI' := hid (HT.out.1 (by rw [HX.out.1, HX.out.2]; exact of_decide_eq_true HB.out))
          go_wp2
          go_roundw
          case rel => exact ⟨⟨_, rfl⟩, k + 1, by omega, by go_num, HI'⟩
          case measure => simp [intOf]; omega
        | false =>
          have HF := hid (HT.out.2 (by rw [HX.out.1, HX.out.2]; exact of_decide_eq_false HB.out))
          go_wp2
          go_ret
          exact ⟨by rw [decide_eq_false HF.out]; rfl, by first | exact below_drewN (below_drewN (Below.refl _ _)) | exact below_drewN (Below.refl _ _) | exact Below.refl _ _⟩
      · have HF := hid (show xs = ys by
          have h := HI.out
          rwa [List.take_of_length_le (by have := HN.out; omega), List.take_of_length_le (by have := HN.out; omega)] at h)
        have hki : ¬ (k : Int) < (n : Int) := by omega
        go_wp2
        go_ret
        exact ⟨by rw [decide_eq_true HF.out]; rfl, by first | exact below_drewN (below_drewN (Below.refl _ _)) | exact below_drewN (Below.refl _ _) | exact Below.refl _ _⟩
  · have HF := hid (show ¬ xs = ys from fun h => hne (by rw [h]))
    have hne' : ((xs.length : Int) == (ys.length : Int)) = false := by rw [beq_eq_false_iff_ne]; omega
    go_enter Tryz.func43, Tryz.ntmps43
    go_wp2
    go_ret
    exact ⟨by rw [decide_eq_false HF.out]; rfl, Below.refl _ _⟩
end Go.Proofs.YtiinnnbpbnojgaaGreatDoor
