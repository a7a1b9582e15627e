import Derived.Test.YtiinnnbpbnojgaaGreatDoorGs
import Derived.Test.YtiinnnbpbnojgaaGreatDoorKb
/- What is proved: slices of pieces that came in, as lists; the reference's Same, and package tok's Same, at these. -/
namespace Go.Proofs.YtiinnnbpbnojgaaGreatDoor
open Go Go.RowKit Go.Lib
set_option linter.unusedSimpArgs false
set_option linter.unusedVariables false

/-- A piece of whatever numbers. -/
structure TkI where
  kind : Int
  str : List UInt8
  at_ : Int
deriving DecidableEq
def tkCellsI (t : TkI) : List Value := [.int .i64 t.kind, .string ⟨t.str.toArray⟩, .int .i64 t.at_]
/-- A slice of pieces that reads as a list. -/
def TokIn (w : World) (v : Value) (ts : List TkI) : Prop :=
  ∃ (A : Option Addr) (cap : Nat), v = .slice A ts.length cap ∧ ∀ k, k < ts.length → ∃ (b o : Nat), A = some ⟨b, o, none⟩ ∧ b < w.heap.size ∧
    w.cell? ⟨b, o + k * 3, none⟩ = some (.int .i64 (ts.getD k ⟨0, [], 0⟩).kind) ∧ w.cell? ⟨b, o + k * 3 + 1, none⟩ = some (.string ⟨(ts.getD k ⟨0, [], 0⟩).str.toArray⟩) ∧ w.cell? ⟨b, o + k * 3 + 2, none⟩ = some (.int .i64 (ts.getD k ⟨0, [], 0⟩).at_)
theorem TokIn.nil (w : World) : TokIn w (.slice none 0 0) [] := ⟨none, 0, rfl, fun k h => by simp at h⟩
theorem TokIn.below {w w' : World} {v : Value} {ts : List TkI} (h : TokIn w v ts) (hb : Below w.heap.size w w') : TokIn w' v ts := by
  obtain ⟨A, cap, hv, hc⟩ := h
  refine ⟨A, cap, hv, fun k hk => ?_⟩
  obtain ⟨b, o, ha, hlt, h0, h1, h2⟩ := hc k hk
  exact ⟨b, o, ha, Nat.lt_of_lt_of_le hlt hb.size, (hb.cell (p := ⟨b, o + k * 3, none⟩) hlt).trans h0, (hb.cell (p := ⟨b, o + k * 3 + 1, none⟩) hlt).trans h1, (hb.cell (p := ⟨b, o + k * 3 + 2, none⟩) hlt).trans h2⟩

theorem tok_eqI (x y : TkI) : ((x.kind : Int) == (y.kind : Int) && ((⟨x.str.toArray⟩ : ByteArray).toList == (⟨y.str.toArray⟩ : ByteArray).toList && (x.at_ : Int) == (y.at_ : Int))) = decide (x = y) := by
  rw [Lib.toList_data, Lib.toList_data, Bool.eq_iff_iff]
  obtain ⟨k1, s1, p1⟩ := x
  obtain ⟨k2, s2, p2⟩ := y
  simp only [Bool.and_eq_true, beq_iff_eq, decide_eq_true_eq, TkI.mk.injEq, toList_mk]

theorem take_eqI {xs ys : List TkI} {k : Nat} (hx : k < xs.length) (hy : k < ys.length) (h : xs.take k = ys.take k) :
    (xs.getD k ⟨0, [], 0⟩ = ys.getD k ⟨0, [], 0⟩ → xs.take (k + 1) = ys.take (k + 1)) ∧ (¬ xs.getD k ⟨0, [], 0⟩ = ys.getD k ⟨0, [], 0⟩ → ¬ xs = ys) := by
  refine ⟨fun e => ?_, fun e e2 => e (by rw [e2])⟩
  rw [List.take_succ_eq_append_getElem hx, List.take_succ_eq_append_getElem hy, h]
  simp only [List.getD, List.getElem?_eq_getElem hx, List.getElem?_eq_getElem hy, Option.getD_some] at e
  rw [e]

set_option maxRecDepth 100000 in
theorem slEqual_anyI (u v : Value) (xs ys : List TkI) (w : World) (hx : TokIn w u xs) (hy : TokIn w v ys) (hl : xs.length ≤ 1000000) (hm : ys.length ≤ 1000000) :
    Calls Tryz.prog 66 #[u, v] w fun e w' => e = .returned (.bool (decide (xs = ys))) ∧ Below w.heap.size w w' := by
  obtain ⟨A, ca, rfl, hA⟩ := hx
  obtain ⟨B, cb, rfl, hB⟩ := hy
  by_cases hne : xs.length = ys.length
  · obtain ⟨n, hn⟩ : ∃ n, xs.length = n := ⟨_, rfl⟩
    rw [hn] at hne hA hl ⊢
    rw [← hne] at hB hm ⊢
    have HN := hid (And.intro hn hne)
    clear hn hne
    go_enter Tryz.func66, Tryz.ntmps66
    go_wp2
    go_loopw [13] (fun i wr => (∃ q, wr = w.drewN q) ∧ ∃ k : Nat, k ≤ n ∧ i = .int .i64 k ∧ Hid (xs.take k = ys.take k)) (fun i _ => n - (intOf i).toNat)
    case atStart => exact ⟨⟨0, rfl⟩, 0, by omega, rfl, hid rfl⟩
    case round =>
      obtain ⟨⟨q0, rfl⟩, k, hk, rfl, HI⟩ := hrel
      by_cases hlt : k < n
      · obtain ⟨a, o, rfl, ha, a0, a1, a2⟩ := hA k hlt
        obtain ⟨b, o2, rfl, hb, b0, b1, b2⟩ := hB k hlt
        obtain ⟨⟨k1, s1, p1⟩, hx⟩ : ∃ x, xs.getD k ⟨0, [], 0⟩ = x := ⟨_, rfl⟩
        obtain ⟨⟨k2, s2, p2⟩, hy⟩ : ∃ x, ys.getD k ⟨0, [], 0⟩ = x := ⟨_, rfl⟩
        rw [hx] at a0 a1 a2
        rw [hy] at b0 b1 b2
        have HX := hid (And.intro hx hy)
        clear hx hy
        clear hA hB
        have hki : (k : Int) < (n : Int) := by omega
        go_wp2
        obtain ⟨bb, hbb⟩ : ∃ bb, ((k1 : Int) == (k2 : Int) && ((⟨s1.toArray⟩ : ByteArray).toList == (⟨s2.toArray⟩ : ByteArray).toList && (p1 : Int) == (p2 : Int))) = bb := ⟨_, rfl⟩
        have hE := fun wx => neq_tok k1 p1 k2 p2 ⟨s1.toArray⟩ ⟨s2.toArray⟩ wx
        rw [hbb] at hE
        have HB := hid (show decide ((⟨k1, s1, p1⟩ : TkI) = ⟨k2, s2, p2⟩) = bb from (tok_eqI ⟨k1, s1, p1⟩ ⟨k2, s2, p2⟩).symm.trans hbb)
        clear hbb
        have HT := hid (take_eqI (xs := xs) (ys := ys) (k := k) (by have := HN.out; omega) (by have := HN.out; omega) HI.out)
        go_quiet (fail)
        cases bb with
        | true =>
          have HI' := hid (HT.out.1 (by rw [HX.out.1, HX.out.2]; exact of_decide_eq_true HB.out))
          go_wp2
          go_roundw
          case rel => exact ⟨⟨_, rfl⟩, k + 1, by omega, by go_num, HI'⟩
          case measure => simp [intOf]; omega
        | false =>
          have HF := hid (HT.out.2 (by rw [HX.out.1, HX.out.2]; exact of_decide_eq_false HB.out))
          go_wp2
          go_ret
          exact ⟨by rw [decide_eq_false HF.out]; rfl, by first | exact below_drewN (below_drewN (Below.refl _ _)) | exact below_drewN (Below.refl _ _) | exact Below.refl _ _⟩
      · have HF := hid (show xs = ys by
          have h := HI.out
          rwa [List.take_of_length_le (by have := HN.out; omega), List.take_of_length_le (by have := HN.out; omega)] at h)
        have hki : ¬ (k : Int) < (n : Int) := by omega
        go_wp2
        go_ret
        exact ⟨by rw [decide_eq_true HF.out]; rfl, by first | exact below_drewN (below_drewN (Below.refl _ _)) | exact below_drewN (Below.refl _ _) | exact Below.refl _ _⟩
  · have HF := hid (show ¬ xs = ys from fun h => hne (by rw [h]))
    have hne' : ((xs.length : Int) == (ys.length : Int)) = false := by rw [beq_eq_false_iff_ne]; omega
    go_enter Tryz.func66, Tryz.ntmps66
    go_wp2
    go_ret
    exact ⟨by rw [decide_eq_false HF.out]; rfl, Below.refl _ _⟩

theorem tSame_anyI (u v : Value) (xs ys : List TkI) (w : World) (hx : TokIn w u xs) (hy : TokIn w v ys) (hl : xs.length ≤ 1000000) (hm : ys.length ≤ 1000000) :
    Calls Tryz.prog 36 #[u, v] w fun e w' => e = .returned (.bool (decide (xs = ys))) ∧ Below w.heap.size w w' := by
  have hE := slEqual_anyI u v xs ys w hx hy hl hm
  clear hx hy
  go_enter Tryz.func36, Tryz.ntmps36
  go_wp2_with fail
  refine hE.mono ?_
  rintro e w1 ⟨rfl, hb1⟩
  clear hE
  go_wp2
  go_ret
  exact ⟨rfl, hb1⟩
end Go.Proofs.YtiinnnbpbnojgaaGreatDoor
