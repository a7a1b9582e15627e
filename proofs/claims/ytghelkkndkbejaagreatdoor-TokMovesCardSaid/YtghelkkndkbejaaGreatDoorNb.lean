import Derived.Test.YtghelkkndkbejaaGreatDoorHa
import Derived.Deep.QuietTactic
import Derived.BigQuiet
/- What is proved: law 15's TokMoves, at every input. -/
namespace Go.Proofs.YtghelkkndkbejaaGreatDoor
open Go Go.RowKit Go.Lib
set_option linter.unusedSimpArgs false
set_option linter.unusedVariables false

theorem rises_at {n : Nat} : ∀ {ts : List Tk} {la : Int} {d : Nat}, Rises n la d ts → ∀ k, k < ts.length → (ts.getD k ⟨0, [], 0⟩).at_ < n
  | [], _, _, _, k, h => by simp at h
  | t :: r, la, d, hr, 0, _ => hr.2.1
  | t :: r, la, d, hr, k + 1, h => by
    obtain ⟨_, _, _, _, _, d', _, _, _, h'⟩ := hr
    have := rises_at h' k (by simpa using h)
    simpa using this
theorem moves_facts (l : List UInt8) (m : Nat) : (∃ e p q : Nat, readT l = ([], p, e) ∧ e ≠ 0 ∧ p ≤ l.length ∧ readT (List.replicate m 32 ++ l) = ([], q, e) ∧ (e = 40 ∨ e = 80 ∨ (e ≠ 40 ∧ e ≠ 80 ∧ q = p + m))) ∨
    (∃ ts, readT l = (ts, 0, 0) ∧ readT (List.replicate m 32 ++ l) = (ts.map (shTk m), 0, 0) ∧ ts.length ≤ l.length ∧ ∀ k, k < ts.length → (ts.getD k ⟨0, [], 0⟩).at_ < l.length) := by
  have hM := readT_moves m l
  rcases readT_cases l with ⟨e, p, hr, he, hp⟩ | ⟨ts, hr, hri⟩
  · refine .inl ⟨e, p, if validD l ∧ (runes l).all plainRune ∧ (readT l).2.2 ≠ 0 then m + p else p, hr, he, hp, by rw [hM, hr]; rfl, ?_⟩
    by_cases h40 : e = 40
    · exact .inl h40
    by_cases h80 : e = 80
    · exact .inr (.inl h80)
    refine .inr (.inr ⟨h40, h80, ?_⟩)
    have hv : validD l = true := by
      cases hv : validD l with
      | true => rfl
      | false => unfold readT at hr; rw [hv] at hr; simp at hr; omega
    have hq : (runes l).all plainRune = true := by
      cases hq : (runes l).all plainRune with
      | true => rfl
      | false => unfold readT at hr; rw [if_pos hv, hq] at hr; simp at hr; omega
    rw [if_pos ⟨hv, hq, by rw [hr]; exact he⟩]; omega
  · refine .inr ⟨ts, hr, by rw [hM, hr]; simp, ?_, rises_at hri⟩
    cases ts with
    | nil => simp
    | cons t r =>
      have hpos : 0 < l.length := by have := hri.2.1; omega
      have := rises_len (t :: r) (-1) 0 (by omega) (by omega) hri
      omega


def blanks9 (m : Nat) : ByteArray := (⟨#[32, 32, 32, 32, 32, 32, 32, 32, 32]⟩ : ByteArray).extract 0 m
theorem blanks9_is (m : Nat) (h : m ≤ 9) : (blanks9 m).data.toList = List.replicate m 32 := by
  have : m = 0 ∨ m = 1 ∨ m = 2 ∨ m = 3 ∨ m = 4 ∨ m = 5 ∨ m = 6 ∨ m = 7 ∨ m = 8 ∨ m = 9 := by omega
  rcases this with rfl | rfl | rfl | rfl | rfl | rfl | rfl | rfl | rfl | rfl <;> rfl

set_option maxRecDepth 100000 in
set_option maxHeartbeats 4000000 in
theorem TokMoves_any (s : ByteArray) (n : Int) (w : World) (hn : (Lit.int .i64 n).wf = true) (hT : Tabs w) (hE : ErrTy w) :
    Calls Tryz.prog 5 #[.string s, .int .i64 n] w fun e w' => e = .returned (.bool true) ∧ Below w.heap.size w w' := by
  have hcs := cut_same s
  have hSs := cut2_size s
  obtain ⟨S, hS⟩ : ∃ S, cut2 s = S := ⟨_, rfl⟩
  rw [hS] at hcs hSs
  obtain ⟨m, hm, hm9⟩ : ∃ m : Nat, min (max n 0) 9 = (m : Int) ∧ m ≤ 9 := ⟨(min (max n 0) 9).toNat, by omega, by omega⟩
  obtain ⟨Z, hZ⟩ : ∃ Z, blanks9 m = Z := ⟨_, rfl⟩
  have hZs : Z.size = m := by rw [← hZ, Lib.size_eq, blanks9_is m hm9, List.length_replicate]
  have hR := fun X wx (hX : X.size ≤ 100000) hx => tRead_any X wx hX (hT.below hx) (hE.below hx)
  have hsh := shown_any w hT hE
  have hC := moves_facts S.data.toList m
  have hX : (Z ++ S).data.toList = List.replicate m 32 ++ S.data.toList := by simp [← hZ, blanks9_is m hm9]
  have hXs : (Z ++ S).size ≤ 100000 := by rw [ByteArray.size_append]; omega
  replace hX := hid hX
  have hZ2 : (⟨#[32, 32, 32, 32, 32, 32, 32, 32, 32]⟩ : ByteArray).extract 0 m = Z := hZ
  have hms : (m : Int) ≤ 9 := by omega
  have hl : S.data.toList.length ≤ 200 := by rw [← Lib.size_eq]; exact hSs
  clear hS hT hE hZ hn
  go_enter Tryz.func5, Tryz.ntmps5
  go_wp2_with fail
  refine hsh.mono ?_
  rintro e w1 ⟨rfl, hs1⟩
  clear hsh
  go_wp2_with fail
  refine (hcs w1).mono ?_
  rintro e w1' ⟨rfl, hw⟩
  subst w1'
  clear hcs
  go_wp2_with fail
  refine (hR S _ (by omega) hs1).mono ?_
  obtain ⟨⟨lt, lp, le⟩, hl1⟩ : ∃ x, readT S.data.toList = x := ⟨_, rfl⟩
  obtain ⟨⟨nt, np, ne⟩, hn1⟩ : ∃ x, readT (List.replicate m 32 ++ S.data.toList) = x := ⟨_, rfl⟩
  rw [hl1] at hC ⊢
  rw [hn1] at hC
  rintro e w2 ⟨v2, rfl, hv2, hb2⟩
  replace hs1 := below_step hs1 hb2
  have HN := hid hn1
  have HC := hid hC
  clear hb2 hl1 hn1 hC
  go_wp2_with fail
  refine (hR (Z ++ S) _ hXs hs1).mono ?_
  rw [hX.out, HN.out]
  rintro e w3 ⟨v3, rfl, hv3, hb3⟩
  replace hs1 := below_step hs1 hb3
  replace hv2 := hv2.below hb3
  clear hb3 hR
  rcases HC.out with ⟨e, p, q, h1, he, hp, h2, h3⟩ | ⟨ts, h1, h2, h3, h4⟩
  · simp only [Prod.mk.injEq] at h1 h2
    obtain ⟨rfl, rfl, rfl⟩ := h1
    obtain ⟨rfl, rfl, rfl⟩ := h2
    obtain ⟨A, ca, rfl, -⟩ := hv2
    obtain ⟨B, cb, rfl, -⟩ := hv3
    clear HC HN
    rcases h3 with rfl | rfl | ⟨h40, h80, hq⟩
    · go_wp2
      go_ret
      exact ⟨rfl, hs1⟩
    · go_wp2
      go_ret
      exact ⟨rfl, hs1⟩
    · have c0 : ((ne : Int) == 0) = false := by rw [beq_eq_false_iff_ne]; omega
      have c40 : ((ne : Int) == 40) = false := by rw [beq_eq_false_iff_ne]; omega
      have c80 : ((ne : Int) == 80) = false := by rw [beq_eq_false_iff_ne]; omega
      have hq' : (np : Int) = (lp : Int) + (m : Int) := by omega
      clear hq
      go_wp2
      go_ret
      exact ⟨rfl, hs1⟩
  · simp only [Prod.mk.injEq] at h1 h2
    obtain ⟨rfl, rfl, rfl⟩ := h1
    obtain ⟨rfl, rfl, rfl⟩ := h2
    obtain ⟨A, ca, rfl, hA⟩ := hv2
    obtain ⟨B, cb, rfl, hB⟩ := hv3
    rw [List.length_map] at hB ⊢
    obtain ⟨n', hn'⟩ : ∃ n', lt.length = n' := ⟨_, rfl⟩
    rw [hn'] at hA hB h3 h4 ⊢
    have HL := hid hn'
    clear HC HN hn'
    go_wp2
    go_loopw [12] (fun i wr => (∃ q, wr = w3.drewN q) ∧ ∃ k : Nat, k ≤ n' ∧ i = .int .i64 k) (fun i _ => n' - (intOf i).toNat)
    case atStart => exact ⟨⟨0, rfl⟩, 0, by omega, rfl⟩
    case round =>
      obtain ⟨⟨q0, rfl⟩, k, hk, rfl⟩ := hrel
      by_cases hlt : k < n'
      · obtain ⟨a, o, rfl, ha, a0, a1, a2⟩ := hA k hlt
        obtain ⟨b, o2, rfl, hb, b0, b1, b2⟩ := hB k hlt
        rw [show (lt.map (shTk m)).getD k ⟨0, [], 0⟩ = shTk m (lt.getD k ⟨0, [], 0⟩) by simp [List.getD, List.getElem?_map, List.getElem?_eq_getElem (show k < lt.length by rw [HL.out]; exact hlt)]] at b0 b1 b2
        have h5 := h4 k hlt
        obtain ⟨⟨k1, s1, p1⟩, hx⟩ : ∃ x, lt.getD k ⟨0, [], 0⟩ = x := ⟨_, rfl⟩
        rw [hx] at a0 a1 a2 b0 b1 b2 h5
        simp only [shTk] at b0 b1 b2 h5
        obtain ⟨pz, hpz⟩ : ∃ pz, m + p1 = pz := ⟨_, rfl⟩
        rw [hpz] at b2
        have hpz' : (pz : Int) = (p1 : Int) + (m : Int) := by omega
        clear hx hA hB h4 hpz
        have hki : (k : Int) < (n' : Int) := by omega
        go_wp2
        go_quiet (fail)
        go_wp2
        go_roundw
        case rel => exact ⟨⟨_, by first | rfl | (rw [World.drewN_drewN])⟩, k + 1, by omega, by go_num⟩
        case measure => simp [intOf]; omega
      · have c3 : ¬ (k : Int) < (n' : Int) := by omega
        go_wp2
        go_ret
        exact ⟨rfl, below_drewN hs1⟩
end Go.Proofs.YtghelkkndkbejaaGreatDoor
