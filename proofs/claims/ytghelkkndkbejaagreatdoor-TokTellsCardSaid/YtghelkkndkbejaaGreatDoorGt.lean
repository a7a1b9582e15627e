/- What is proved: package tok's Same: which lists of pieces are the same. -/
import Derived.Test.YtghelkkndkbejaaGreatDoorGs
import Derived.Test.YtghelkkndkbejaaGreatDoorKb
namespace Go.Proofs.YtghelkkndkbejaaGreatDoor
open Go Go.RowKit Go.Lib
set_option linter.unusedSimpArgs false
set_option linter.unusedVariables false

set_option maxRecDepth 100000 in
theorem slEqual_any (u v : Value) (xs ys : List Tk) (w : World) (hx : TokSl w u xs) (hy : TokSl w v ys) (hl : xs.length ≤ 1000000) (hm : ys.length ≤ 1000000) :
    Calls Tryz.prog 30 #[u, v] w fun e w' => e = .returned (.bool (decide (xs = ys))) ∧ Below w.heap.size w w' := by
  obtain ⟨A, ca, rfl, hA⟩ := hx
  obtain ⟨B, cb, rfl, hB⟩ := hy
  by_cases hne : xs.length = ys.length
  · obtain ⟨n, hn⟩ : ∃ n, xs.length = n := ⟨_, rfl⟩
    rw [hn] at hne hA hl ⊢
    rw [← hne] at hB hm ⊢
    have HN := hid (And.intro hn hne)
    clear hn hne
    go_enter Tryz.func30, Tryz.ntmps30
    go_wp2
    go_loopw [13] (fun i wr => (∃ q, wr = w.drewN q) ∧ ∃ k : Nat, k ≤ n ∧ i = .int .i64 k ∧ Hid (xs.take k = ys.take k)) (fun i _ => n - (intOf i).toNat)
    case atStart => exact ⟨⟨0, rfl⟩, 0, by omega, rfl, hid rfl⟩
    case round =>
      obtain ⟨⟨q0, rfl⟩, k, hk, rfl, HI⟩ := hrel
      by_cases hlt : k < n
      · obtain ⟨a, o, rfl, ha, a0, a1, a2⟩ := hA k hlt
        obtain ⟨b, o2, rfl, hb, b0, b1, b2⟩ := hB k hlt
        obtain ⟨⟨k1, s1, p1⟩, hx⟩ : ∃ x, xs.getD k ⟨0, [], 0⟩ = x := ⟨_, rfl⟩
        obtain ⟨⟨k2, s2, p2⟩, hy⟩ : ∃ x, ys.getD k ⟨0, [], 0⟩ = x := ⟨_, rfl⟩
        rw [hx] at a0 a1 a2
        rw [hy] at b0 b1 b2
        have HX := hid (And.intro hx hy)
        clear hx hy
        clear hA hB
        have hki : (k : Int) < (n : Int) := by omega
        go_wp2
        obtain ⟨bb, hbb⟩ : ∃ bb, ((k1 : Int) == (k2 : Int) && ((⟨s1.toArray⟩ : ByteArray).toList == (⟨s2.toArray⟩ : ByteArray).toList && ((p1 : Nat) : Int) == (p2 : Int))) = bb := ⟨_, rfl⟩
        have hE := fun wx => neq_tok k1 p1 k2 p2 ⟨s1.toArray⟩ ⟨s2.toArray⟩ wx
        rw [hbb] at hE
        have HB := hid (show decide ((⟨k1, s1, p1⟩ : Tk) = ⟨k2, s2, p2⟩) = bb from (tok_eq ⟨k1, s1, p1⟩ ⟨k2, s2, p2⟩).symm.trans hbb)
        clear hbb
        have HT := hid (take_eq (xs := xs) (ys := ys) (k := k) (by have := HN.out; omega) (by have := HN.out; omega) HI.out)
        go_quiet (fail)
        cases bb with
        | true =>
          have HI' := hid (HT.out.1 (by rw [HX.out.1, HX.out.2]; exact of_decide_eq_true HB.out))
          go_wp2
          go_roundw
          case rel => exact ⟨⟨_, rfl⟩, k + 1, by omega, by go_num, HI'⟩
          case measure => simp [intOf]; omega
        | false =>
          have HF := hid (HT.out.2 (by rw [HX.out.1, HX.out.2]; exact of_decide_eq_false HB.out))
          go_wp2
          go_ret
          exact ⟨by rw [decide_eq_false HF.out]; rfl, by first | exact below_drewN (below_drewN (Below.refl _ _)) | exact below_drewN (Below.refl _ _) | exact Below.refl _ _⟩
      · have HF := hid (show xs = ys by
          have h := HI.out
          rwa [List.take_of_length_le (by have := HN.out; omega), List.take_of_length_le (by have := HN.out; omega)] at h)
        have hki : ¬ (k : Int) < (n : Int) := by omega
        go_wp2
        go_ret
        exact ⟨by rw [decide_eq_true HF.out]; rfl, by first | exact below_drewN (below_drewN (Below.refl _ _)) | exact below_drewN (Below.refl _ _) | exact Below.refl _ _⟩
  · have HF := hid (show ¬ xs = ys from fun h => hne (by rw [h]))
    have hne' : ((xs.length : Int) == (ys.length : Int)) = false := by rw [beq_eq_false_iff_ne]; omega
    go_enter Tryz.func30, Tryz.ntmps30
    go_wp2
    go_ret
    exact ⟨by rw [decide_eq_false HF.out]; rfl, Below.refl _ _⟩

theorem tSame_any (u v : Value) (xs ys : List Tk) (w : World) (hx : TokSl w u xs) (hy : TokSl w v ys) (hl : xs.length ≤ 1000000) (hm : ys.length ≤ 1000000) :
    Calls Tryz.prog 16 #[u, v] w fun e w' => e = .returned (.bool (decide (xs = ys))) ∧ Below w.heap.size w w' := by
  have hE := slEqual_any u v xs ys w hx hy hl hm
  clear hx hy
  go_enter Tryz.func16, Tryz.ntmps16
  go_wp2_with fail
  refine hE.mono ?_
  rintro e w1 ⟨rfl, hb1⟩
  clear hE
  go_wp2
  go_ret
  exact ⟨rfl, hb1⟩
end Go.Proofs.YtghelkkndkbejaaGreatDoor
