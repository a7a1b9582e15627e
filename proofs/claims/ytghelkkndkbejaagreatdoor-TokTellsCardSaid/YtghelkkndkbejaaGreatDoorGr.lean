import Derived.Test.YtghelkkndkbejaaGreatDoorQb
/- What is proved: the reference for layer 14: Plain; the reference for layer 4: the number of digits of base 16, what stands behind a backslash. -/
namespace Go.Proofs.YtghelkkndkbejaaGreatDoor
open Go Go.RowKit Go.Lib
set_option linter.unusedSimpArgs false
set_option linter.unusedVariables false

set_option maxRecDepth 100000 in
set_option maxHeartbeats 400000 in
theorem refPlain14_any (s : ByteArray) (w : World) (hs : s.size ≤ 1000000) :
    Calls Tryz.prog 27 #[.string s] w fun e w' => e = .returned (.bool (plainR s.data.toList)) ∧ Below w.heap.size w w' := by
  have HP : Hid (plainR s.data.toList = ((signsP s.data.toList).1.all plainN && (signsP s.data.toList).2 == 0)) := hid rfl
  obtain ⟨zs, hzs⟩ : ∃ zs, (signsP s.data.toList).1 = zs := ⟨_, rfl⟩
  obtain ⟨er, her⟩ : ∃ er, (signsP s.data.toList).2 = er := ⟨_, rfl⟩
  have hP := HP.out
  rw [hzs, her] at hP
  have HP2 := hid hP; clear hP HP
  have hS := Signs_any s w hs
  rw [hzs, her] at hS
  clear hzs her
  go_enter Tryz.func27, Tryz.ntmps27
  go_wp2_with fail
  refine hS.mono ?_
  clear hS
  rintro e w1 ⟨v, rfl, hown, hlen, hb⟩
  obtain ⟨ho1, ⟨rfl, ho2⟩ | ⟨g, cap, cur, rfl, hg, hh, hn1, hn2, hn3, hn4⟩⟩ := id hown
  · have hz0 : zs = [] := by simpa using ho2
    subst hz0
    clear ho1 ho2 hown
    go_wp2
    go_rounds 1
    go_ret
    exact ⟨by rw [HP2.out]; rfl, hb⟩
  · have hcell : ∀ k (h : k < zs.length), w1.cell? ⟨g, k, none⟩ = some (.int .i64 zs[k]) := fun k h => by
      rw [hown.cellAt k (by omega)]; simp [h]
    have HC := hid hcell
    clear ho1 hn3 hn4 hh hcell hown
    go_wp2
    go_loop [5] (fun i => ∃ k : Nat, k ≤ zs.length ∧ i = .int .i64 k ∧ Hid ((zs.take k).all plainN = true)) (fun i => zs.length - (intOf i).toNat)
    case atStart => exact ⟨0, by omega, rfl, hid rfl⟩
    case round =>
      obtain ⟨k, hk, rfl, HI⟩ := hrel
      by_cases hlt : k < zs.length
      · have hlti : (k : Int) < (zs.length : Int) := by omega
        have hc := HC.out k hlt
        have HT := hid (all_take hlt)
        have HF := hid (all_false hlt)
        obtain ⟨z, hz⟩ : ∃ z, zs[k]'hlt = z := ⟨_, rfl⟩
        rw [hz] at hc
        have HZ := hid hz; clear hz
        cases hp : plainN z with
        | true =>
          have HI' := hid (show (zs.take (k + 1)).all plainN = true by rw [HT.out, HI.out, HZ.out, hp]; rfl)
          go_wp2_with fail
          refine (refPlain_same z _).mono ?_
          rintro e w2 ⟨rfl, rfl⟩
          go_wp2
          go_round
          case rel => exact ⟨k + 1, by omega, by go_num, HI'⟩
          case measure => simp [intOf]; omega
        | false =>
          have HF' := hid (HF.out (by rw [HZ.out, hp]))
          go_wp2_with fail
          refine (refPlain_same z _).mono ?_
          rintro e w2 ⟨rfl, rfl⟩
          go_wp2
          go_ret
          exact ⟨by rw [HP2.out, HF'.out]; rfl, hb⟩
      · have hge : (zs.length : Int) ≤ (k : Int) := by omega
        have HF := hid (show zs.all plainN = true by
          have h := HI.out
          rwa [List.take_of_length_le (by omega)] at h)
        go_wp2
        go_ret
        exact ⟨by rw [HP2.out, HF.out]; rfl, hb⟩

/-! ### digits of base 16 -/
theorem hexD_all : ∀ n : Fin 256, hexD (UInt8.ofNat n.val) = if 48 ≤ n.val ∧ n.val ≤ 57 then some (n.val - 48) else if 97 ≤ n.val ∧ n.val ≤ 102 then some (n.val - 87) else if 65 ≤ n.val ∧ n.val ≤ 70 then some (n.val - 55) else none := by decide +kernel
theorem hexD_is (c : UInt8) : hexD c = if 48 ≤ c.toNat ∧ c.toNat ≤ 57 then some (c.toNat - 48) else if 97 ≤ c.toNat ∧ c.toNat ≤ 102 then some (c.toNat - 87) else if 65 ≤ c.toNat ∧ c.toNat ≤ 70 then some (c.toNat - 55) else none := by
  have h := hexD_all ⟨c.toNat, c.toNat_lt⟩
  simpa using h
theorem hexN_snoc : ∀ (l : List UInt8) (acc : Nat) (c : UInt8), hexN acc (l ++ [c]) = match hexN acc l with
    | none => none
    | some v => match hexD c with | none => none | some d => some (v * 16 + d)
  | [], acc, c => by
    show (match hexD c with | none => none | some d => hexN (acc * 16 + d) []) = _
    cases hexD c <;> rfl
  | e :: t, acc, c => by
    show (match hexD e with | none => none | some d => hexN (acc * 16 + d) (t ++ [c])) = match (match hexD e with | none => none | some d => hexN (acc * 16 + d) t) with | none => none | some v => match hexD c with | none => none | some d => some (v * 16 + d)
    cases hexD e with
    | none => rfl
    | some d => exact hexN_snoc t _ c
theorem hexN_pre : ∀ (l : List UInt8) (acc k : Nat), hexN acc (l.take k) = none → hexN acc l = none
  | [], acc, k, h => by simpa using h
  | c :: t, acc, 0, h => by simp [hexN] at h
  | c :: t, acc, k + 1, h => by
    rw [List.take_succ_cons] at h
    unfold hexN at h ⊢
    cases hd : hexD c with
    | none => rfl
    | some d => rw [hd] at h; exact hexN_pre t _ k h
/-- The number of so many digits; below 0: they are none. -/
def numH (l : List UInt8) (k : Nat) : Int := if l.length < k then -1 else match hexN 0 (l.take k) with | none => -1 | some v => (v : Int)
theorem hex_take {l : List UInt8} {j : Nat} (h : j < l.length) : l.take (j + 1) = l.take j ++ [l.getD j 0] := by
  rw [List.take_succ_eq_append_getElem h]; simp [List.getD, List.getElem?_eq_getElem h]

set_option maxRecDepth 100000 in
set_option maxHeartbeats 4000000 in
theorem refNum_any (s : ByteArray) (p k : Nat) (w : World) (hs : s.size ≤ 1000000) (hp : p ≤ 1000002) (hk : k ≤ 4) (hk1 : 1 ≤ k) :
    Calls Tryz.prog 103 #[.string s, .int .i64 p, .int .i64 k] w fun e w' => e = .returned (.int .i64 (numH (s.data.toList.drop p) k)) ∧ w' = w := by
  by_cases hlen : s.size < p + k
  · have hl : (s.size : Int) < (p : Int) + (k : Int) := by omega
    have HV := hid (show numH (s.data.toList.drop p) k = -1 by unfold numH; rw [if_pos (by rw [List.length_drop, ← Lib.size_eq]; omega)])
    go_enter Tryz.func103, Tryz.ntmps103
    go_wp2
    go_ret
    exact ⟨by rw [HV.out]; rfl, rfl⟩
  have hl : ¬ (s.size : Int) < (p : Int) + (k : Int) := by omega
  have hlD : k ≤ (s.data.toList.drop p).length := by rw [List.length_drop, ← Lib.size_eq]; omega
  obtain ⟨L, hL⟩ : ∃ L, s.data.toList.drop p = L := ⟨_, rfl⟩
  have HV := hid (show numH L k = (match hexN 0 (L.take k) with | none => -1 | some v => (v : Int)) by unfold numH; rw [if_neg (by rw [← hL]; omega)])
  have HL := hid hL
  rw [hL] at hlD
  rw [hL]
  clear hL
  go_enter Tryz.func103, Tryz.ntmps103
  go_wp2
  go_loop [7, 8] (fun n i => ∃ j v : Nat, j ≤ k ∧ i = .int .i64 ((p + j : Nat) : Int) ∧ n = .int .i64 v ∧ v < 16 ^ j ∧ Hid (hexN 0 (L.take j) = some v)) (fun _ i => p + k - (intOf i).toNat)
  case atStart => exact ⟨0, 0, by omega, by simp, rfl, by decide, hid rfl⟩
  case round =>
    obtain ⟨j, v, hj, rfl, rfl, hv, HN⟩ := hrel
    have HVV := hid hv
    clear hv
    by_cases hlt : j < k
    · have hv16 : (v : Int) < 4096 := by
        have h1 : 16 ^ j ≤ 16 ^ 3 := Nat.pow_le_pow_right (by decide) (by omega)
        have h2 : (16 : Nat) ^ 3 = 4096 := by decide
        have := HVV.out
        omega
      have hlti : ((p + j : Nat) : Int) < (p : Int) + (k : Int) := by omega
      have hps : p + j < s.size := by omega
      have hpsi : ((p + j : Nat) : Int) < (s.size : Int) := by omega
      obtain ⟨c, hc⟩ : ∃ c, s[p + j]'hps = c := ⟨_, rfl⟩
      have HT := hid (show L.take (j + 1) = L.take j ++ [c] by
        have h1 : j < L.length := by omega
        rw [hex_take h1, ← HL.out, ← hc]
        congr 2
        rw [← getD_byte s (p + j) hps]
        simp [List.getD, List.getElem?_drop])
      have HS := hid (hexN_snoc (L.take j) 0 c)
      have HD := hid (hexD_is c)
      have HP := hid (hexN_pre (L.take k) 0 (j + 1))
      have hc256 : (c.toNat : Int) < 256 := by have := c.toNat_lt; omega
      have HPW := hid (show 16 ^ (j + 1) = 16 ^ j * 16 from Nat.pow_succ 16 j)
      by_cases c1 : 48 ≤ (c.toNat : Int) ∧ (c.toNat : Int) ≤ 57
      · obtain ⟨c1, c2⟩ := c1
        have HN' := hid (show hexN 0 (L.take (j + 1)) = some (v * 16 + (c.toNat - 48)) by
          rw [HT.out, HS.out, HN.out, HD.out, if_pos (by omega)])
        go_wp2
        go_round
        case rel => exact ⟨j + 1, v * 16 + (c.toNat - 48), by omega, by go_num, by go_num, by have := HPW.out; have := HVV.out; omega, HN'⟩
        case measure => simp [intOf]; omega
      by_cases c3 : 97 ≤ (c.toNat : Int) ∧ (c.toNat : Int) ≤ 102
      · obtain ⟨c3, c4⟩ := c3
        have c2 : ¬ (c.toNat : Int) ≤ 57 := by omega
        have HN' := hid (show hexN 0 (L.take (j + 1)) = some (v * 16 + (c.toNat - 87)) by
          rw [HT.out, HS.out, HN.out, HD.out, if_neg (by omega), if_pos (by omega)])
        clear c1
        go_wp2
        go_round
        case rel => exact ⟨j + 1, v * 16 + (c.toNat - 87), by omega, by go_num, by go_num, by have := HPW.out; have := HVV.out; omega, HN'⟩
        case measure => simp [intOf]; omega
      by_cases c5 : 65 ≤ (c.toNat : Int) ∧ (c.toNat : Int) ≤ 70
      · obtain ⟨c5, c6⟩ := c5
        have c2 : ¬ (c.toNat : Int) ≤ 57 := by omega
        have c7 : ¬ 97 ≤ (c.toNat : Int) := by omega
        have HN' := hid (show hexN 0 (L.take (j + 1)) = some (v * 16 + (c.toNat - 55)) by
          rw [HT.out, HS.out, HN.out, HD.out, if_neg (by omega), if_neg (by omega), if_pos (by omega)])
        clear c1 c3
        go_wp2
        go_round
        case rel => exact ⟨j + 1, v * 16 + (c.toNat - 55), by omega, by go_num, by go_num, by have := HPW.out; have := HVV.out; omega, HN'⟩
        case measure => simp [intOf]; omega
      have HF := hid (show numH L k = -1 by
        rw [HV.out]
        have h1 : hexN 0 (L.take (j + 1)) = none := by
          rw [HT.out, HS.out, HN.out, HD.out, if_neg (by omega), if_neg (by omega), if_neg (by omega)]
        rw [HP.out (by rw [List.take_take, Nat.min_eq_left (by omega)]; exact h1)])
      rcases (by omega : (c.toNat : Int) < 48 ∨ (57 < (c.toNat : Int) ∧ (c.toNat : Int) < 65) ∨ (70 < (c.toNat : Int) ∧ (c.toNat : Int) < 97) ∨ 102 < (c.toNat : Int)) with d1 | ⟨d1, d2⟩ | ⟨d1, d2⟩ | d1
      all_goals
        clear c1 c3 c5
        go_wp2
        go_ret
        exact ⟨by rw [HF.out]; rfl, rfl⟩
    · have hge : ¬ ((p + j : Nat) : Int) < (p : Int) + (k : Int) := by omega
      have hjk : j = k := by omega
      have HF := hid (show numH L k = (v : Int) by rw [HV.out, ← hjk, HN.out])
      clear hjk
      go_wp2
      go_ret
      exact ⟨by rw [HF.out]; rfl, rfl⟩
end Go.Proofs.YtghelkkndkbejaaGreatDoor
