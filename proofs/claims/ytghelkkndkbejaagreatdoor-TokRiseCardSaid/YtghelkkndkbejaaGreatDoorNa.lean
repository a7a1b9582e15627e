/- What is proved: law 15's TokRise, at every input. -/
import Derived.Test.YtghelkkndkbejaaGreatDoorHa
import Derived.Test.YtghelkkndkbejaaGreatDoorMf
namespace Go.Proofs.YtghelkkndkbejaaGreatDoor
open Go Go.RowKit Go.Lib
set_option linter.unusedSimpArgs false
set_option linter.unusedVariables false

set_option maxRecDepth 100000 in
set_option maxHeartbeats 4000000 in
theorem TokRise_any (s : ByteArray) (w : World) (hT : Tabs w) (hE : ErrTy w) :
    Calls Tryz.prog 4 #[.string s] w fun e w' => e = .returned (.bool true) ∧ Below w.heap.size w w' := by
  have hcs := cut_same s
  have hSs := cut2_size s
  obtain ⟨S, hS⟩ : ∃ S, cut2 s = S := ⟨_, rfl⟩
  rw [hS] at hcs hSs
  have hR := fun wx hx => tRead_any S wx (by omega) (hT.below hx) (hE.below hx)
  have hsh := shown_any w hT hE
  have hC := readT_cases S.data.toList
  rw [← Lib.size_eq] at hC
  clear hS hT hE
  go_enter Tryz.func4, Tryz.ntmps4
  go_wp2_with fail
  refine hsh.mono ?_
  rintro e w1 ⟨rfl, hs1⟩
  clear hsh
  go_wp2_with fail
  refine (hcs w1).mono ?_
  rintro e w1' ⟨rfl, hw⟩
  subst w1'
  clear hcs
  go_wp2_with fail
  refine (hR _ hs1).mono ?_
  rintro e w2 ⟨l, rfl, hl, hb2⟩
  replace hs1 := below_step hs1 hb2
  clear hb2 hR
  rcases hC with ⟨er, p, hr, he, hp⟩ | ⟨ts, hr, hri⟩
  · rw [hr] at hl ⊢
    obtain ⟨A, cap, rfl, -⟩ := hl
    have he' : ((er : Int) == 0) = false := by rw [beq_eq_false_iff_ne]; omega
    have hp0 : (0 : Int) ≤ (p : Int) := by omega
    have hp1 : (p : Int) ≤ (S.size : Int) := by omega
    go_wp2
    go_ret
    exact ⟨rfl, hs1⟩
  · rw [hr] at hl ⊢
    obtain ⟨A, cap, rfl, hA⟩ := hl
    replace hA : ∀ k, k < ts.length → _ := hA
    have hlen := rises_len ts (-1) 0 (by omega) (by omega) hri
    obtain ⟨n, hn⟩ : ∃ n, ts.length = n := ⟨_, rfl⟩
    rw [hn] at hA hlen
    have HN := hid hn
    have HR := hid hri
    clear hri hr
    go_wp2
    go_loopw [7, 8, 9] (fun la dp i wr => ∃ (z : Int) (d k : Nat), la = .int .i64 z ∧ dp = .int .i64 d ∧ i = .int .i64 k ∧ -1 ≤ z ∧ z < 200 ∧ d ≤ k ∧ k ≤ n ∧ Below w2.heap.size w2 wr ∧ Hid (Rises S.size z d (ts.drop k))) (fun _ _ i _ => n - (intOf i).toNat)
    case atStart => exact ⟨-1, 0, 0, rfl, rfl, rfl, by omega, by omega, by omega, by omega, Below.refl _ _, hid HR.out⟩
    case round =>
      obtain ⟨z, d, k, rfl, rfl, rfl, hz1, hz2, hd, hk, hb, HX⟩ := hrel
      by_cases hlt : k < n
      · obtain ⟨a, o, rfl, ha, a0, a1, a2⟩ := hA k hlt
        replace a0 := cell_below a0 hb
        replace a1 := cell_below a1 hb
        replace a2 := cell_below a2 hb
        have hr := HX.out
        rw [drop_getD ts k (by rw [HN.out]; exact hlt)] at hr
        obtain ⟨⟨k1, s1, p1⟩, hx⟩ : ∃ x, ts.getD k ⟨0, [], 0⟩ = x := ⟨_, rfl⟩
        rw [hx] at a0 a1 a2 hr
        clear hx hA HX
        obtain ⟨q1, q2, q3, q4, q5, d', q6, q7, q8, HX⟩ := hr
        replace HX := hid HX
        have c1 : ¬ (p1 : Int) ≤ z := by simpa using q1
        have c2 : ¬ (S.size : Int) ≤ (p1 : Int) := by have : p1 < S.size := q2; omega
        have c3 : (k : Int) < (n : Int) := by omega
        clear q1 q2
        have hk1 : k1 = 8 ∧ d' = d + 1 ∧ s1 = [] ∨ k1 = 10 ∧ d' = d + 1 ∧ s1 = [] ∨ k1 = 9 ∧ d = d' + 1 ∧ s1 = [] ∨ k1 = 11 ∧ d = d' + 1 ∧ s1 = [] ∨ k1 = 7 ∧ d' = d ∧ s1 = [] ∧ 0 < d ∨ k1 = 6 ∧ d' = d ∧ s1 = [] ∨ k1 = 5 ∧ d = 0 ∧ d' = 0 ∧ s1 = [] ∨ (k1 = 1 ∨ k1 = 2 ∨ k1 = 3 ∨ k1 = 4) ∧ d' = d := by
          simp only at q3 q4 q5 q6 q7 q8
          rcases (by omega : k1 = 1 ∨ k1 = 2 ∨ k1 = 3 ∨ k1 = 4 ∨ k1 = 5 ∨ k1 = 6 ∨ k1 = 7 ∨ k1 = 8 ∨ k1 = 9 ∨ k1 = 10 ∨ k1 = 11) with rfl | rfl | rfl | rfl | rfl | rfl | rfl | rfl | rfl | rfl | rfl <;> simp at * <;> simp_all <;> omega
        clear q3 q4 q5 q6 q7 q8
        have e1 : ¬ (d : Int) + 1 < 0 := by omega
        have e2 : ¬ (d : Int) < 0 := by omega
        rcases hk1 with ⟨rfl, rfl, rfl⟩ | ⟨rfl, rfl, rfl⟩ | ⟨rfl, hd', rfl⟩ | ⟨rfl, hd', rfl⟩ | ⟨rfl, hq, rfl, h7⟩ | ⟨rfl, hq, rfl⟩ | ⟨rfl, rfl, rfl, rfl⟩ | ⟨hk1, hq⟩
        · go_wp2
          go_roundw
          case rel => exact ⟨p1, d + 1, k + 1, by go_num, by go_num, by go_num, by omega, by omega, by omega, by omega, hb.alloc hb.size _, HX⟩
          case measure => simp [intOf]; omega
        · go_wp2
          go_roundw
          case rel => exact ⟨p1, d + 1, k + 1, by go_num, by go_num, by go_num, by omega, by omega, by omega, by omega, hb.alloc hb.size _, HX⟩
          case measure => simp [intOf]; omega
        · have HD := hid hd'
          have e3 : ¬ (d : Int) - 1 < 0 := by omega
          clear hd' e1 e2
          go_wp2
          go_roundw
          case rel => exact ⟨p1, d', k + 1, by go_num, by rw [show ((d : Int) - 1) = (d' : Int) by have := HD.out; omega], by go_num, by omega, by omega, by have := HD.out; omega, by omega, hb.alloc hb.size _, HX⟩
          case measure => simp [intOf]; omega
        · have HD := hid hd'
          have e3 : ¬ (d : Int) - 1 < 0 := by omega
          clear hd' e1 e2
          go_wp2
          go_roundw
          case rel => exact ⟨p1, d', k + 1, by go_num, by rw [show ((d : Int) - 1) = (d' : Int) by have := HD.out; omega], by go_num, by omega, by omega, by have := HD.out; omega, by omega, hb.alloc hb.size _, HX⟩
          case measure => simp [intOf]; omega
        · subst d'
          have e4 : ((d : Int) == 0) = false := by rw [beq_eq_false_iff_ne]; omega
          go_wp2
          go_roundw
          case rel => exact ⟨p1, d, k + 1, by go_num, by go_num, by go_num, by omega, by omega, by omega, by omega, hb.alloc hb.size _, HX⟩
          case measure => simp [intOf]; omega
        · subst d'
          go_wp2
          go_roundw
          case rel => exact ⟨p1, d, k + 1, by go_num, by go_num, by go_num, by omega, by omega, by omega, by omega, hb.alloc hb.size _, HX⟩
          case measure => simp [intOf]; omega
        · go_wp2
          go_roundw
          case rel => exact ⟨p1, 0, k + 1, by go_num, by go_num, by go_num, by omega, by omega, by omega, by omega, hb.alloc hb.size _, HX⟩
          case measure => simp [intOf]; omega
        · subst d'
          rcases hk1 with rfl | rfl | rfl | rfl
          all_goals
            go_wp2
            go_roundw
            case rel => exact ⟨p1, d, k + 1, by go_num, by go_num, by go_num, by omega, by omega, by omega, by omega, hb.alloc hb.size _, HX⟩
            case measure => simp [intOf]; omega
      · have c3 : ¬ (k : Int) < (n : Int) := by omega
        go_wp2
        go_ret
        exact ⟨rfl, below_step hs1 hb⟩
end Go.Proofs.YtghelkkndkbejaaGreatDoor
