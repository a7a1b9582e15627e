import Derived.Test.YtkdhaipjfkalfaaGreatDoorQb
import Derived.Test.YtkdhaipjfkalfaaGreatDoorMq
/- What is proved: the reference for layer 4: the number of digits of base 16. -/
namespace Go.Proofs.YtkdhaipjfkalfaaGreatDoor
open Go Go.RowKit Go.Lib
set_option linter.unusedSimpArgs false
set_option linter.unusedVariables false

/-! ### digits of base 16 -/
theorem hexD_all : ∀ n : Fin 256, hexD (UInt8.ofNat n.val) = if 48 ≤ n.val ∧ n.val ≤ 57 then some (n.val - 48) else if 97 ≤ n.val ∧ n.val ≤ 102 then some (n.val - 87) else if 65 ≤ n.val ∧ n.val ≤ 70 then some (n.val - 55) else none := by decide +kernel
theorem hexD_is (c : UInt8) : hexD c = if 48 ≤ c.toNat ∧ c.toNat ≤ 57 then some (c.toNat - 48) else if 97 ≤ c.toNat ∧ c.toNat ≤ 102 then some (c.toNat - 87) else if 65 ≤ c.toNat ∧ c.toNat ≤ 70 then some (c.toNat - 55) else none := by
  have h := hexD_all ⟨c.toNat, c.toNat_lt⟩
  simpa using h
theorem hexN_snoc : ∀ (l : List UInt8) (acc : Nat) (c : UInt8), hexN acc (l ++ [c]) = match hexN acc l with
    | none => none
    | some v => match hexD c with | none => none | some d => some (v * 16 + d)
  | [], acc, c => by
    show (match hexD c with | none => none | some d => hexN (acc * 16 + d) []) = _
    cases hexD c <;> rfl
  | e :: t, acc, c => by
    show (match hexD e with | none => none | some d => hexN (acc * 16 + d) (t ++ [c])) = match (match hexD e with | none => none | some d => hexN (acc * 16 + d) t) with | none => none | some v => match hexD c with | none => none | some d => some (v * 16 + d)
    cases hexD e with
    | none => rfl
    | some d => exact hexN_snoc t _ c
theorem hexN_pre : ∀ (l : List UInt8) (acc k : Nat), hexN acc (l.take k) = none → hexN acc l = none
  | [], acc, k, h => by simpa using h
  | c :: t, acc, 0, h => by simp [hexN] at h
  | c :: t, acc, k + 1, h => by
    rw [List.take_succ_cons] at h
    unfold hexN at h ⊢
    cases hd : hexD c with
    | none => rfl
    | some d => rw [hd] at h; exact hexN_pre t _ k h
/-- The number of so many digits; below 0: they are none. -/
def numH (l : List UInt8) (k : Nat) : Int := if l.length < k then -1 else match hexN 0 (l.take k) with | none => -1 | some v => (v : Int)
theorem hex_take {l : List UInt8} {j : Nat} (h : j < l.length) : l.take (j + 1) = l.take j ++ [l.getD j 0] := by
  rw [List.take_succ_eq_append_getElem h]; simp [List.getD, List.getElem?_eq_getElem h]

set_option maxRecDepth 100000 in
set_option maxHeartbeats 4000000 in
theorem refNum_any (s : ByteArray) (p k : Nat) (w : World) (hs : s.size ≤ 1000000) (hp : p ≤ 1000002) (hk : k ≤ 4) (hk1 : 1 ≤ k) :
    Calls Tryz.prog 85 #[.string s, .int .i64 p, .int .i64 k] w fun e w' => e = .returned (.int .i64 (numH (s.data.toList.drop p) k)) ∧ w' = w := by
  by_cases hlen : s.size < p + k
  · have hl : (s.size : Int) < (p : Int) + (k : Int) := by omega
    have HV := hid (show numH (s.data.toList.drop p) k = -1 by unfold numH; rw [if_pos (by rw [List.length_drop, ← Lib.size_eq]; omega)])
    go_enter Tryz.func85, Tryz.ntmps85
    go_wp2
    go_ret
    exact ⟨by rw [HV.out]; rfl, rfl⟩
  have hl : ¬ (s.size : Int) < (p : Int) + (k : Int) := by omega
  have hlD : k ≤ (s.data.toList.drop p).length := by rw [List.length_drop, ← Lib.size_eq]; omega
  obtain ⟨L, hL⟩ : ∃ L, s.data.toList.drop p = L := ⟨_, rfl⟩
  have HV := hid (show numH L k = (match hexN 0 (L.take k) with | none => -1 | some v => (v : Int)) by unfold numH; rw [if_neg (by rw [← hL]; omega)])
  have HL := hid hL
  rw [hL] at hlD
  rw [hL]
  clear hL
  go_enter Tryz.func85, Tryz.ntmps85
  go_wp2
  go_loop [7, 8] (fun n i => ∃ j v : Nat, j ≤ k ∧ i = .int .i64 ((p + j : Nat) : Int) ∧ n = .int .i64 v ∧ v < 16 ^ j ∧ Hid (hexN 0 (L.take j) = some v)) (fun _ i => p + k - (intOf i).toNat)
  case atStart => exact ⟨0, 0, by omega, by simp, rfl, by decide, hid rfl⟩
  case round =>
    obtain ⟨j, v, hj, rfl, rfl, hv, HN⟩ := hrel
    have HVV := hid hv
    clear hv
    by_cases hlt : j < k
    · have hv16 : (v : Int) < 4096 := by
        have h1 : 16 ^ j ≤ 16 ^ 3 := Nat.pow_le_pow_right (by decide) (by omega)
        have h2 : (16 : Nat) ^ 3 = 4096 := by decide
        have := HVV.out
        omega
      have hlti : ((p + j : Nat) : Int) < (p : Int) + (k : Int) := by omega
      have hps : p + j < s.size := by omega
      have hpsi : ((p + j : Nat) : Int) < (s.size : Int) := by omega
      obtain ⟨c, hc⟩ : ∃ c, s[p + j]'hps = c := ⟨_, rfl⟩
      have HT := hid (show L.take (j + 1) = L.take j ++ [c] by
        have h1 : j < L.length := by omega
        rw [hex_take h1, ← HL.out, ← hc]
        congr 2
        rw [← getD_byte s (p + j) hps]
        simp [List.getD, List.getElem?_drop])
      have HS := hid (hexN_snoc (L.take j) 0 c)
      have HD := hid (hexD_is c)
      have HP := hid (hexN_pre (L.take k) 0 (j + 1))
      have hc256 : (c.toNat : Int) < 256 := by have := c.toNat_lt; omega
      have HPW := hid (show 16 ^ (j + 1) = 16 ^ j * 16 from Nat.pow_succ 16 j)
      by_cases c1 : 48 ≤ (c.toNat : Int) ∧ (c.toNat : Int) ≤ 57
      · obtain ⟨c1, c2⟩ := c1
        have HN' := hid (show hexN 0 (L.take (j + 1)) = some (v * 16 + (c.toNat - 48)) by
          rw [HT.out, HS.out, HN.out, HD.out, if_pos (by omega)])
        go_wp2
        go_round
        case rel => exact ⟨j + 1, v * 16 + (c.toNat - 48), by omega, by go_num, by go_num, by have := HPW.out; have := HVV.out; omega, HN'⟩
        case measure => simp [intOf]; omega
      by_cases c3 : 97 ≤ (c.toNat : Int) ∧ (c.toNat : Int) ≤ 102
      · obtain ⟨c3, c4⟩ := c3
        have c2 : ¬ (c.toNat : Int) ≤ 57 := by omega
        have HN' := hid (show hexN 0 (L.take (j + 1)) = some (v * 16 + (c.toNat - 87)) by
          rw [HT.out, HS.out, HN.out, HD.out, if_neg (by omega), if_pos (by omega)])
        clear c1
        go_wp2
        go_round
        case rel => exact ⟨j + 1, v * 16 + (c.toNat - 87), by omega, by go_num, by go_num, by have := HPW.out; have := HVV.out; omega, HN'⟩
        case measure => simp [intOf]; omega
      by_cases c5 : 65 ≤ (c.toNat : Int) ∧ (c.toNat : Int) ≤ 70
      · obtain ⟨c5, c6⟩ := c5
        have c2 : ¬ (c.toNat : Int) ≤ 57 := by omega
        have c7 : ¬ 97 ≤ (c.toNat : Int) := by omega
        have HN' := hid (show hexN 0 (L.take (j + 1)) = some (v * 16 + (c.toNat - 55)) by
          rw [HT.out, HS.out, HN.out, HD.out, if_neg (by omega), if_neg (by omega), if_pos (by omega)])
        clear c1 c3
        go_wp2
        go_round
        case rel => exact ⟨j + 1, v * 16 + (c.toNat - 55), by omega, by go_num, by go_num, by have := HPW.out; have := HVV.out; omega, HN'⟩
        case measure => simp [intOf]; omega
      have HF := hid (show numH L k = -1 by
        rw [HV.out]
        have h1 : hexN 0 (L.take (j + 1)) = none := by
          rw [HT.out, HS.out, HN.out, HD.out, if_neg (by omega), if_neg (by omega), if_neg (by omega)]
        rw [HP.out (by rw [List.take_take, Nat.min_eq_left (by omega)]; exact h1)])
      rcases (by omega : (c.toNat : Int) < 48 ∨ (57 < (c.toNat : Int) ∧ (c.toNat : Int) < 65) ∨ (70 < (c.toNat : Int) ∧ (c.toNat : Int) < 97) ∨ 102 < (c.toNat : Int)) with d1 | ⟨d1, d2⟩ | ⟨d1, d2⟩ | d1
      all_goals
        clear c1 c3 c5
        go_wp2
        go_ret
        exact ⟨by rw [HF.out]; rfl, rfl⟩
    · have hge : ¬ ((p + j : Nat) : Int) < (p : Int) + (k : Int) := by omega
      have hjk : j = k := by omega
      have HF := hid (show numH L k = (v : Int) by rw [HV.out, ← hjk, HN.out])
      clear hjk
      go_wp2
      go_ret
      exact ⟨by rw [HF.out]; rfl, rfl⟩
end Go.Proofs.YtkdhaipjfkalfaaGreatDoor

/- What is proved: the reference for layer 4: what stands behind a backslash; Read at a quote of a right text. -/
namespace Go.Proofs.YtkdhaipjfkalfaaGreatDoor
open Go Go.RowKit Go.Lib
set_option linter.unusedSimpArgs false
set_option linter.unusedVariables false

def EscPost (x : QP) (a : Nat) (w : World) (e : Ending) (w' : World) : Prop :=
  (match x with
   | .sign r k => e = .returned (.tuple #[.string ⟨(encodeRune r).toArray⟩, .int .i64 ((a + 1 + k : Nat) : Int), .bool true])
   | _ => ∃ (t : ByteArray) (z : Int), e = .returned (.tuple #[.string t, .int .i64 z, .bool false])) ∧ Below w.heap.size w w'
theorem esc_ok {r : Int} {k a : Nat} {w w' : World} {t : ByteArray} {z : Int} (h1 : t = ⟨(encodeRune r).toArray⟩) (h2 : z = ((a + 1 + k : Nat) : Int)) (hb : Below w.heap.size w w') : EscPost (.sign r k) a w (.returned (.tuple #[.string t, .int .i64 z, .bool true])) w' := by
  subst h1 h2
  exact ⟨rfl, hb⟩
theorem esc_bad {e0 : Int} {a : Nat} {w w' : World} {t : ByteArray} {z : Int} (hb : Below w.heap.size w w') : EscPost (.bad e0) a w (.returned (.tuple #[.string t, .int .i64 z, .bool false])) w' := ⟨⟨t, z, rfl⟩, hb⟩

theorem numL_some {t : List UInt8} {k v : Nat} (hl : ¬ t.length < k) (hx : hexN 0 (t.take k) = some v) : numL t k = if Lib.validRune (v : Int) then some v else none := by
  unfold numL
  rw [if_neg hl, hx]
theorem numLq_of {t : List UInt8} {k v : Nat} (h : numL t k = some v) : numLq t k = .sign v k := by
  unfold numLq
  rw [h]
theorem numLq_no {t : List UInt8} {k : Nat} (h : numL t k = none) : numLq t k = .bad 41 := by
  unfold numLq
  rw [h]
theorem numH_some {t : List UInt8} {k v : Nat} (hl : ¬ t.length < k) (hx : hexN 0 (t.take k) = some v) : numH t k = (v : Int) := by
  unfold numH
  rw [if_neg hl, hx]
theorem num_bad {t : List UInt8} {k : Nat} (h : t.length < k ∨ hexN 0 (t.take k) = none) : numH t k = -1 ∧ numLq t k = .bad 41 := by
  by_cases hl : t.length < k
  · exact ⟨by unfold numH; rw [if_pos hl], numLq_no (by unfold numL; rw [if_pos hl])⟩
  · rcases h with h | h
    · exact absurd h hl
    · exact ⟨by unfold numH; rw [if_neg hl, h], numLq_no (by unfold numL; rw [if_neg hl, h])⟩
theorem num_two (t : List UInt8) : (numH t 2 = -1 ∧ numLq t 2 = .bad 41) ∨ (∃ v : Nat, v < 256 ∧ numH t 2 = (v : Int) ∧ numLq t 2 = .sign v 2) := by
  by_cases hl : t.length < 2
  · exact .inl (num_bad (.inl hl))
  · cases hx : hexN 0 (t.take 2) with
    | none => exact .inl (num_bad (.inr hx))
    | some v =>
      have h1 := hexN_lt _ _ _ hx
      rw [List.length_take, Nat.min_eq_left (by omega)] at h1
      have h3 : v < 256 := by omega
      have hvr : Lib.validRune (v : Int) = true := by unfold Lib.validRune; rw [decide_eq_true_eq]; omega
      exact .inr ⟨v, h3, numH_some hl hx, numLq_of (by rw [numL_some hl hx, if_pos hvr])⟩
theorem num_four (t : List UInt8) : (numH t 4 = -1 ∧ numLq t 4 = .bad 41) ∨ (∃ v : Nat, v < 65536 ∧ numH t 4 = (v : Int) ∧ ((signP (v : Int) = true ∧ numLq t 4 = .sign v 4) ∨ (signP (v : Int) = false ∧ numLq t 4 = .bad 41))) := by
  by_cases hl : t.length < 4
  · exact .inl (num_bad (.inl hl))
  · cases hx : hexN 0 (t.take 4) with
    | none => exact .inl (num_bad (.inr hx))
    | some v =>
      have h1 := hexN_lt _ _ _ hx
      rw [List.length_take, Nat.min_eq_left (by omega)] at h1
      have h3 : v < 65536 := by omega
      refine .inr ⟨v, h3, numH_some hl hx, ?_⟩
      cases hs : signP (v : Int) with
      | true =>
        have hvr : Lib.validRune (v : Int) = true := by
          rw [signP_iff] at hs
          unfold Lib.validRune; rw [decide_eq_true_eq]; omega
        exact .inl ⟨rfl, numLq_of (by rw [numL_some hl hx, if_pos hvr])⟩
      | false =>
        have hvr : ¬ Lib.validRune (v : Int) = true := by
          intro hh
          have : signP (v : Int) = true := by
            unfold Lib.validRune at hh; rw [decide_eq_true_eq] at hh; rw [signP_iff]; omega
          rw [this] at hs; cases hs
        exact .inr ⟨rfl, numLq_no (by rw [numL_some hl hx, if_neg hvr])⟩
/-- What stands behind a backslash and begins nothing. -/
theorem escL_none (c : UInt8) (t : List UInt8) (h : c ∉ ([34, 92, 47, 110, 116, 114, 48, 120, 117] : List UInt8)) : escL (c :: t) = .bad 41 := by
  have hx : ∃ x : Int, runeL (c :: t) = x ∧ x ≠ 34 ∧ x ≠ 92 ∧ x ≠ 47 ∧ x ≠ 110 ∧ x ≠ 116 ∧ x ≠ 114 ∧ x ≠ 48 ∧ x ≠ 120 ∧ x ≠ 117 := by
    rcases Nat.lt_or_ge c.toNat 128 with h1 | h1
    · refine ⟨c.toNat, runeL_cons c t h1, ?_⟩
      simp only [List.mem_cons, List.not_mem_nil, or_false, not_or] at h
      have e : ∀ n : Nat, n < 256 → c ≠ UInt8.ofNat n → (c.toNat : Int) ≠ (n : Int) := fun n hn hne he => hne (UInt8.toNat_inj.1 (by rw [UInt8.toNat_ofNat']; omega))
      obtain ⟨a1, a2, a3, a4, a5, a6, a7, a8, a9⟩ := h
      exact ⟨e 34 (by decide) a1, e 92 (by decide) a2, e 47 (by decide) a3, e 110 (by decide) a4, e 116 (by decide) a5, e 114 (by decide) a6, e 48 (by decide) a7, e 120 (by decide) a8, e 117 (by decide) a9⟩
    · have h2 := rune_high c t h1
      refine ⟨((decodeL (c :: t)).1 : Int), by unfold runeL; rw [if_neg (by simp)], ?_⟩
      omega
  obtain ⟨x, h0, h1, h2, h3, h4, h5, h6, h7, h8, h9⟩ := hx
  unfold escL
  rw [if_neg (by simp), h0, if_neg (by unfold memB; simp [h1, h2, h3]), if_neg h7, if_neg h8, if_neg h9]
  unfold shortQ
  rw [if_neg h4, if_neg h5, if_neg h6]

set_option maxRecDepth 100000 in
set_option maxHeartbeats 400000 in
theorem Bytes_sur (n : Int) (w : World) (h0 : 55296 ≤ n) (h1 : n ≤ 57343) :
    Calls Tryz.prog 79 #[.int .i64 n] w fun e w' => (∃ t, e = .returned (.string t)) ∧ Below w.heap.size w w' := by
  have hcv : (Sem.run Tryz.prog (convert 81 9 (.slice (some ⟨w.heap.size, 0, none⟩) 3 3)) (w.alloc (.cells #[Value.int .u8 (224 + n / 4096), Value.int .u8 (128 + n / 64 % 64), Value.int .u8 (128 + n % 64)] 5))) = .ok (.string (strOfNums [224 + n / 4096, 128 + n / 64 % 64, 128 + n % 64])) (w.alloc (.cells #[Value.int .u8 (224 + n / 4096), Value.int .u8 (128 + n / 64 % 64), Value.int .u8 (128 + n % 64)] 5)) := conv_bytes w [224 + n / 4096, 128 + n / 64 % 64, 128 + n % 64]
  obtain ⟨T, hT⟩ : ∃ T, strOfNums [224 + n / 4096, 128 + n / 64 % 64, 128 + n % 64] = T := ⟨_, rfl⟩
  rw [hT] at hcv
  clear hT
  go_enter Tryz.func79, Tryz.ntmps79
  go_wp2
  go_ret
  exact ⟨⟨T, rfl⟩, (Below.refl _ w).alloc (Nat.le_refl _) _⟩

theorem num_at (s : ByteArray) (a k : Nat) (w : World) (hs : s.size ≤ 1000000) (ha : a ≤ 1000000) (hk : k ≤ 4) (hk1 : 1 ≤ k) : Calls Tryz.prog 85 #[.string s, .int .i64 ((a : Int) + 2), .int .i64 (k : Int)] w fun e w' => e = .returned (.int .i64 (numH (s.data.toList.drop (a + 2)) k)) ∧ w' = w := by
  have h := refNum_any s (a + 2) k w hs (by omega) hk hk1
  rwa [show ((a + 2 : Nat) : Int) = (a : Int) + 2 by omega] at h
theorem bytes_of {s : ByteArray} {l : List UInt8} (h : s.data.toList = l) : s = ⟨l.toArray⟩ := by subst h; rfl
theorem enc_byte (c : UInt8) (h : c.toNat < 128) : encodeRune (c.toNat : Int) = [c] := by
  unfold encodeRune
  rw [encodeRuneZ_one (by omega) (by omega)]
  simp
theorem one_byte (s : ByteArray) (i : Nat) (h : i < s.size) (c : UInt8) (hc : s[i]'h = c) (h128 : c.toNat < 128) : s.extract i (i + 1) = ⟨(encodeRune (c.toNat : Int)).toArray⟩ := by
  have h1 : (s.extract i (i + 1)).data.toList = [c] := by
    rw [extract_take, drop_cons s i h, hc]; rfl
  rw [enc_byte c h128]
  exact bytes_of h1

set_option maxRecDepth 100000 in
set_option maxHeartbeats 8000000 in
theorem refEsc_any (s : ByteArray) (a : Nat) (w : World) (hs : s.size ≤ 1000000) (ha : a < s.size) :
    Calls Tryz.prog 58 #[.string s, .int .i64 a] w (EscPost (escL (s.data.toList.drop (a + 1))) a w) := by
  by_cases hlt : a + 1 < s.size
  · have hi : (a : Int) + 1 < (s.size : Int) := by omega
    have hi2 : (a : Int) + 2 ≤ (s.size : Int) := by omega
    obtain ⟨c, hc⟩ : ∃ c, s[a + 1]'hlt = c := ⟨_, rfl⟩
    have hd := drop_cons s (a + 1) hlt
    rw [hc] at hd
    rw [hd]
    have hd2 : s.data.toList.drop (a + 1 + 1) = s.data.toList.drop (a + 2) := rfl
    rw [hd2]
    have h0 := fun wx => Bytes_any 0 wx (by decide)
    have hN2 := fun wx => num_at s a 2 wx hs (by omega) (by decide) (by decide)
    have hN4 := fun wx => num_at s a 4 wx hs (by omega) (by decide) (by decide)
    rw [show ((2 : Nat) : Int) = 2 from rfl] at hN2
    rw [show ((4 : Nat) : Int) = 4 from rfl] at hN4
    obtain ⟨t, ht⟩ : ∃ t, s.data.toList.drop (a + 2) = t := ⟨_, rfl⟩
    rw [ht] at hN2 hN4 ⊢
    clear hd hd2 ht
    have hE : ∀ h128 : c.toNat < 128, s.extract (a + 1) (a + 2) = ⟨(encodeRune (c.toNat : Int)).toArray⟩ := fun h128 => one_byte s (a + 1) hlt c hc h128
    by_cases c34 : c = 34
    · subst c34
      have HX := hid (show escL (34 :: t) = .sign 34 1 by rw [escL_byte _ _ (by decide)]; rfl)
      have HE := hid (hE (by decide))
      clear hE h0 hN2 hN4
      go_enter Tryz.func58, Tryz.ntmps58
      go_wp2
      refine bodyPost_ret (v := .tuple #[.string (s.extract (a + 1) (a + 2)), .int .i64 ((a : Int) + 2), .bool true]) (by simp [results, Tryz.results58, go_sem]) rfl ?_
      rw [HX.out]
      exact esc_ok HE.out (by omega) (Below.refl _ _)
    by_cases c92 : c = 92
    · subst c92
      have HX := hid (show escL (92 :: t) = .sign 92 1 by rw [escL_byte _ _ (by decide)]; rfl)
      have HE := hid (hE (by decide))
      clear hE h0 hN2 hN4
      go_enter Tryz.func58, Tryz.ntmps58
      go_wp2
      refine bodyPost_ret (v := .tuple #[.string (s.extract (a + 1) (a + 2)), .int .i64 ((a : Int) + 2), .bool true]) (by simp [results, Tryz.results58, go_sem]) rfl ?_
      rw [HX.out]
      exact esc_ok HE.out (by omega) (Below.refl _ _)
    by_cases c47 : c = 47
    · subst c47
      have HX := hid (show escL (47 :: t) = .sign 47 1 by rw [escL_byte _ _ (by decide)]; rfl)
      have HE := hid (hE (by decide))
      clear hE h0 hN2 hN4
      go_enter Tryz.func58, Tryz.ntmps58
      go_wp2
      refine bodyPost_ret (v := .tuple #[.string (s.extract (a + 1) (a + 2)), .int .i64 ((a : Int) + 2), .bool true]) (by simp [results, Tryz.results58, go_sem]) rfl ?_
      rw [HX.out]
      exact esc_ok HE.out (by omega) (Below.refl _ _)
    by_cases c110 : c = 110
    · subst c110
      have HX := hid (show escL (110 :: t) = .sign 10 1 by rw [escL_byte _ _ (by decide)]; rfl)
      clear hE h0 hN2 hN4
      go_enter Tryz.func58, Tryz.ntmps58
      go_wp2
      refine bodyPost_ret (v := .tuple #[.string ⟨#[10]⟩, .int .i64 ((a : Int) + 2), .bool true]) (by simp [results, Tryz.results58, go_sem]) rfl ?_
      rw [HX.out]
      exact esc_ok (by rw [show encodeRune 10 = [10] by decide +kernel]) (by omega) (Below.refl _ _)
    by_cases c116 : c = 116
    · subst c116
      have HX := hid (show escL (116 :: t) = .sign 9 1 by rw [escL_byte _ _ (by decide)]; rfl)
      clear hE h0 hN2 hN4
      go_enter Tryz.func58, Tryz.ntmps58
      go_wp2
      refine bodyPost_ret (v := .tuple #[.string ⟨#[9]⟩, .int .i64 ((a : Int) + 2), .bool true]) (by simp [results, Tryz.results58, go_sem]) rfl ?_
      rw [HX.out]
      exact esc_ok (by rw [show encodeRune 9 = [9] by decide +kernel]) (by omega) (Below.refl _ _)
    by_cases c114 : c = 114
    · subst c114
      have HX := hid (show escL (114 :: t) = .sign 13 1 by rw [escL_byte _ _ (by decide)]; rfl)
      clear hE h0 hN2 hN4
      go_enter Tryz.func58, Tryz.ntmps58
      go_wp2
      refine bodyPost_ret (v := .tuple #[.string ⟨#[13]⟩, .int .i64 ((a : Int) + 2), .bool true]) (by simp [results, Tryz.results58, go_sem]) rfl ?_
      rw [HX.out]
      exact esc_ok (by rw [show encodeRune 13 = [13] by decide +kernel]) (by omega) (Below.refl _ _)
    by_cases c48 : c = 48
    · subst c48
      have HX := hid (show escL (48 :: t) = .sign 0 1 by rw [escL_byte _ _ (by decide)]; rfl)
      clear hE h0 hN2 hN4
      go_enter Tryz.func58, Tryz.ntmps58
      go_wp2
      refine bodyPost_ret (v := .tuple #[.string ⟨#[0]⟩, .int .i64 ((a : Int) + 2), .bool true]) (by simp [results, Tryz.results58, go_sem]) rfl ?_
      rw [HX.out]
      exact esc_ok (by rw [show encodeRune 0 = [0] by decide +kernel]) (by omega) (Below.refl _ _)
    by_cases c120 : c = 120
    · subst c120
      have hX : escL (120 :: t) = shQ 1 (numLq t 2) := by rw [escL_byte _ _ (by decide)]; rfl
      rcases num_two t with ⟨n1, n2⟩ | ⟨v, hv, n1, n2⟩
      · rw [n1] at hN2
        rw [n2] at hX
        have HX := hid hX
        have hm : max (-1 : Int) 0 = 0 := rfl
        clear hE hN4 hX n1 n2
        go_enter Tryz.func58, Tryz.ntmps58
        go_wp2_with fail
        refine (hN2 _).mono ?_
        rintro e w1 ⟨rfl, hw⟩
        subst w1
        clear hN2
        go_wp2_with fail
        refine (h0 _).mono ?_
        rintro e w1 ⟨rfl, hb⟩
        go_wp2
        refine bodyPost_ret (v := .tuple #[.string ⟨(encodeRune 0).toArray⟩, .int .i64 ((a : Int) + 4), .bool false]) (by simp [results, Tryz.results58, go_sem]) rfl ?_
        rw [HX.out]
        exact esc_bad hb
      · rw [n1] at hN2
        rw [n2] at hX
        have HX := hid hX
        have hm : max (v : Int) 0 = (v : Int) := by omega
        have hB := fun wx => Bytes_any (v : Int) wx (by rw [signP_iff]; omega)
        have hv0 : (0 : Int) ≤ (v : Int) := by omega
        clear hE hN4 hX n1 n2 h0
        go_enter Tryz.func58, Tryz.ntmps58
        go_wp2_with fail
        refine (hN2 _).mono ?_
        rintro e w1 ⟨rfl, hw⟩
        subst w1
        clear hN2
        go_wp2_with fail
        refine (hB _).mono ?_
        rintro e w1 ⟨rfl, hb⟩
        clear hB
        go_wp2
        refine bodyPost_ret (v := .tuple #[.string ⟨(encodeRune (v : Int)).toArray⟩, .int .i64 ((a : Int) + 4), .bool true]) (by simp [results, Tryz.results58, go_sem]) rfl ?_
        rw [HX.out]
        exact esc_ok rfl (by omega) hb
    by_cases c117 : c = 117
    · subst c117
      have hX : escL (117 :: t) = shQ 1 (numLq t 4) := by rw [escL_byte _ _ (by decide)]; rfl
      rcases num_four t with ⟨n1, n2⟩ | ⟨v, hv, n1, ⟨n2, n3⟩ | ⟨n2, n3⟩⟩
      · rw [n1] at hN4
        rw [n2] at hX
        have HX := hid hX
        have hm : max (-1 : Int) 0 = 0 := rfl
        have hS := fun wx => Sign_same (-1) wx
        rw [show signP (-1) = false from rfl] at hS
        clear hE hN2 hX n1 n2
        go_enter Tryz.func58, Tryz.ntmps58
        go_wp2_with fail
        refine (hN4 _).mono ?_
        rintro e w1 ⟨rfl, hw⟩
        subst w1
        clear hN4
        go_wp2_with fail
        refine (h0 _).mono ?_
        rintro e w1 ⟨rfl, hb⟩
        go_wp2_with fail
        refine (hS _).mono ?_
        rintro e w2 ⟨rfl, hw⟩
        subst w2
        go_wp2
        refine bodyPost_ret (v := .tuple #[.string ⟨(encodeRune 0).toArray⟩, .int .i64 ((a : Int) + 6), .bool false]) (by simp [results, Tryz.results58, go_sem]) rfl ?_
        rw [HX.out]
        exact esc_bad hb
      · rw [n1] at hN4
        rw [n3] at hX
        have HX := hid hX
        have hm : max (v : Int) 0 = (v : Int) := by omega
        have hB := fun wx => Bytes_any (v : Int) wx n2
        have hS := fun wx => Sign_same (v : Int) wx
        rw [n2] at hS
        clear hE hN2 hX n1 n2 n3 h0 hv
        go_enter Tryz.func58, Tryz.ntmps58
        go_wp2_with fail
        refine (hN4 _).mono ?_
        rintro e w1 ⟨rfl, hw⟩
        subst w1
        clear hN4
        go_wp2_with fail
        refine (hB _).mono ?_
        rintro e w1 ⟨rfl, hb⟩
        clear hB
        go_wp2_with fail
        refine (hS _).mono ?_
        rintro e w2 ⟨rfl, hw⟩
        subst w2
        go_wp2
        refine bodyPost_ret (v := .tuple #[.string ⟨(encodeRune (v : Int)).toArray⟩, .int .i64 ((a : Int) + 6), .bool true]) (by simp [results, Tryz.results58, go_sem]) rfl ?_
        rw [HX.out]
        exact esc_ok rfl (by omega) hb
      · rw [n1] at hN4
        rw [n3] at hX
        have HX := hid hX
        have hm : max (v : Int) 0 = (v : Int) := by omega
        have hsur : 55296 ≤ (v : Int) ∧ (v : Int) ≤ 57343 := by
          rcases Int.lt_or_le (v : Int) 55296 with h | h
          · exfalso; have : signP (v : Int) = true := by rw [signP_iff]; omega
            rw [this] at n2; cases n2
          · rcases Int.lt_or_le 57343 (v : Int) with h' | h'
            · exfalso; have : signP (v : Int) = true := by rw [signP_iff]; omega
              rw [this] at n2; cases n2
            · exact ⟨h, h'⟩
        have hB := fun wx => Bytes_sur (v : Int) wx hsur.1 hsur.2
        have hS := fun wx => Sign_same (v : Int) wx
        rw [n2] at hS
        clear hE hN2 hX n1 n2 n3 h0 hv hsur
        go_enter Tryz.func58, Tryz.ntmps58
        go_wp2_with fail
        refine (hN4 _).mono ?_
        rintro e w1 ⟨rfl, hw⟩
        subst w1
        clear hN4
        go_wp2_with fail
        refine (hB _).mono ?_
        rintro e w1 ⟨⟨T, rfl⟩, hb⟩
        clear hB
        go_wp2_with fail
        refine (hS _).mono ?_
        rintro e w2 ⟨rfl, hw⟩
        subst w2
        go_wp2
        refine bodyPost_ret (v := .tuple #[.string T, .int .i64 ((a : Int) + 6), .bool false]) (by simp [results, Tryz.results58, go_sem]) rfl ?_
        rw [HX.out]
        exact esc_bad hb
    have HX := hid (show escL (c :: t) = .bad 41 from escL_none c t (by simp only [List.mem_cons, List.not_mem_nil, or_false, not_or]; exact ⟨c34, c92, c47, c110, c116, c114, c48, c120, c117⟩))
    have d34 : ((c.toNat : Int) == 34) = false := by rw [beq_eq_false_iff_ne]; intro h; exact c34 (UInt8.toNat_inj.1 (by show c.toNat = 34; omega))
    have d92 : ((c.toNat : Int) == 92) = false := by rw [beq_eq_false_iff_ne]; intro h; exact c92 (UInt8.toNat_inj.1 (by show c.toNat = 92; omega))
    have d47 : ((c.toNat : Int) == 47) = false := by rw [beq_eq_false_iff_ne]; intro h; exact c47 (UInt8.toNat_inj.1 (by show c.toNat = 47; omega))
    have d110 : ((c.toNat : Int) == 110) = false := by rw [beq_eq_false_iff_ne]; intro h; exact c110 (UInt8.toNat_inj.1 (by show c.toNat = 110; omega))
    have d116 : ((c.toNat : Int) == 116) = false := by rw [beq_eq_false_iff_ne]; intro h; exact c116 (UInt8.toNat_inj.1 (by show c.toNat = 116; omega))
    have d114 : ((c.toNat : Int) == 114) = false := by rw [beq_eq_false_iff_ne]; intro h; exact c114 (UInt8.toNat_inj.1 (by show c.toNat = 114; omega))
    have d48 : ((c.toNat : Int) == 48) = false := by rw [beq_eq_false_iff_ne]; intro h; exact c48 (UInt8.toNat_inj.1 (by show c.toNat = 48; omega))
    have d120 : ((c.toNat : Int) == 120) = false := by rw [beq_eq_false_iff_ne]; intro h; exact c120 (UInt8.toNat_inj.1 (by show c.toNat = 120; omega))
    have d117 : ((c.toNat : Int) == 117) = false := by rw [beq_eq_false_iff_ne]; intro h; exact c117 (UInt8.toNat_inj.1 (by show c.toNat = 117; omega))
    clear c34 c92 c47 c110 c116 c114 c48 c120 c117 hE h0 hN2 hN4
    go_enter Tryz.func58, Tryz.ntmps58
    go_wp2
    refine bodyPost_ret (v := .tuple #[.string ⟨#[]⟩, .int .i64 0, .bool false]) (by simp [results, Tryz.results58, go_sem]) rfl ?_
    rw [HX.out]
    exact esc_bad (Below.refl _ _)
  · have hi : (s.size : Int) ≤ (a : Int) + 1 := by omega
    rw [List.drop_eq_nil_of_le (show s.data.toList.length ≤ a + 1 by rw [← Lib.size_eq]; omega)]
    have HX := hid (show escL [] = .bad 41 from rfl)
    go_enter Tryz.func58, Tryz.ntmps58
    go_wp2
    refine bodyPost_ret (v := .tuple #[.string ⟨#[]⟩, .int .i64 0, .bool false]) (by simp [results, Tryz.results58, go_sem]) rfl ?_
    rw [HX.out]
    exact esc_bad (Below.refl _ _)
end Go.Proofs.YtkdhaipjfkalfaaGreatDoor
