import Derived.Test.YtkdhaipjfkalfaaGreatDoorGq
import Derived.Test.YtkdhaipjfkalfaaGreatDoorQh
/- What is proved: the reference for layer 4: Read at a quote of a right text. -/
namespace Go.Proofs.YtkdhaipjfkalfaaGreatDoor
open Go Go.RowKit Go.Lib
set_option linter.unusedSimpArgs false
set_option linter.unusedVariables false

theorem readL_step {q : Int} {l : List UInt8} {k : Nat} (hv : validD l = true) {f : Nat} (hf : l.length < f) (acc : List UInt8) : readL q f l acc k = match oneL q l with
    | .sign r j => readL q (f - j) (l.drop j) (acc ++ encodeRune r) (k + j)
    | .fin j => (acc, k + j, 0)
    | .bad e => ([], 0, e) := by
  obtain ⟨g, rfl⟩ : ∃ g, f = g + 1 := ⟨f - 1, by omega⟩
  show (match oneL q l with | .sign r j => readL q g (l.drop j) (acc ++ encodeRune r) (k + j) | .fin j => (acc, k + j, 0) | .bad e => ([], 0, e)) = _
  cases ho : oneL q l with
  | sign r j =>
    obtain ⟨_, h2, h3, _, _⟩ := oneL_next hv ho
    exact readL_fuel q _ _ _ _ _ (by rw [List.length_drop]; omega) (by rw [List.length_drop]; omega)
  | fin j => rfl
  | bad e => rfl
theorem oneL_nil (q : Int) : oneL q [] = .bad 42 := rfl
theorem oneL_fin {q : Int} {c : UInt8} {t : List UInt8} (hc : c.toNat < 128) (hq : (c.toNat : Int) = q) (h : ¬ (q = 39 ∧ runeL t = 39 ∧ 0 < t.length)) : oneL q (c :: t) = .fin 1 := by
  unfold oneL
  rw [if_neg (by simp), runeL_cons c t hc, if_pos hq, if_neg]
  rintro ⟨h1, h2, h3⟩
  exact h ⟨by omega, h2, by simpa using h3⟩
theorem oneL_two {t : List UInt8} (h : runeL t = 39) (h0 : 0 < t.length) : oneL 39 (39 :: t) = .sign 39 2 := by
  unfold oneL
  rw [if_neg (by simp), runeL_cons 39 t (by decide), if_pos (by decide), if_pos ⟨by decide, h, by simpa using h0⟩]
theorem oneL_esc (t : List UInt8) : oneL 34 (92 :: t) = shQ 1 (escL t) := by
  unfold oneL
  rw [if_neg (by simp), runeL_cons _ _ (by decide), if_neg (by decide), if_pos ⟨rfl, rfl⟩]
  rfl
/-- Not the quote, not a backslash. -/
theorem oneL_else {q : Int} (hq : q = 34 ∨ q = 39) {c : UInt8} {t : List UInt8} (h1 : (c.toNat : Int) ≠ q) (h2 : ¬ ((c.toNat : Int) = 92 ∧ q = 34)) : oneL q (c :: t) = if plainN ((decodeL (c :: t)).1 : Int) then .sign ((decodeL (c :: t)).1 : Int) (decodeL (c :: t)).2 else .bad 42 := by
  have hr : runeL (c :: t) = ((decodeL (c :: t)).1 : Int) := by unfold runeL; rw [if_neg (by simp)]
  have hx : runeL (c :: t) ≠ q ∧ ¬ (runeL (c :: t) = 92 ∧ q = 34) := by
    rcases Nat.lt_or_ge c.toNat 128 with h | h
    · rw [runeL_cons c t h]; exact ⟨h1, h2⟩
    · have := rune_high c t h
      rw [hr]; omega
  unfold oneL
  rw [if_neg (by simp), if_neg hx.1, if_neg hx.2, hr]
theorem rune_39 {c : UInt8} {t : List UInt8} : runeL (c :: t) = 39 ↔ c = 39 := by
  constructor
  · intro h
    rcases Nat.lt_or_ge c.toNat 128 with h1 | h1
    · rw [runeL_cons c t h1] at h
      exact UInt8.toNat_inj.1 (by show c.toNat = 39; omega)
    · have := rune_high c t h1
      unfold runeL at h
      rw [if_neg (by simp)] at h
      omega
  · rintro rfl
    exact runeL_cons 39 t (by decide)
theorem mk_lst (s : ByteArray) : (⟨s.data.toList.toArray⟩ : ByteArray) = s := by cases s; simp
theorem enc_four (z : Int) : (encodeRune z).length ≤ 4 := by
  have := Lib.runeCells_le z
  rw [← Lib.byteCells_encodeRune, Lib.byteCells_length] at this
  exact this.2
theorem app_list (a b : ByteArray) : (a ++ b).data.toList = a.data.toList ++ b.data.toList := by simp

set_option maxRecDepth 100000 in
set_option maxHeartbeats 16000000 in
theorem refRead04_any (s : ByteArray) (a : Nat) (q : Int) (w : World) (hs : s.size ≤ 100000) (hq : quoteB s.data.toList a q) (hv : validD s.data.toList = true) :
    Calls Tryz.prog 37 #[.string s, .int .i64 a] w fun e w' => e = .returned (resQ (readQ s a)) ∧ Below w.heap.size w w' := by
  have hlt0 : a < s.size := by rw [Lib.size_eq]; exact hq.1
  have hRQ : readQ s a = readL q (s.size + 1 - (a + 1)) (s.data.toList.drop (a + 1)) [] (a + 1) := by
    have := readQ_L hq hv
    rw [← bytes_of rfl, ← Lib.size_eq] at this
    exact this
  have hv1 := valid_quote hq hv
  have hR := refRight04_any s w (by omega)
  rw [hv] at hR
  obtain ⟨RQ, hRQ2⟩ : ∃ RQ, readQ s a = RQ := ⟨_, rfl⟩
  rw [hRQ2] at hRQ ⊢
  have HRQ := hid hRQ
  have HV1 := hid hv1
  clear hRQ hRQ2 hv hv1
  obtain ⟨c0, hc0⟩ : ∃ c, s[a]'hlt0 = c := ⟨_, rfl⟩
  have hcq : (c0 = 34 ∧ q = 34) ∨ (c0 = 39 ∧ q = 39) := by
    have := hq.2
    rw [getD_byte s a hlt0, hc0] at this
    exact this
  have hai : (a : Int) < (s.size : Int) := by omega
  have ha0 : decide ((a : Int) < 0) = false := by simp
  have ha1 : decide (s.size ≤ a) = false := by simp; omega
  clear hq
  rcases hcq with ⟨rfl, rfl⟩ | ⟨rfl, rfl⟩
  all_goals
    go_enter Tryz.func37, Tryz.ntmps37
    go_wp2_with fail
    refine hR.mono ?_
    rintro e w1 ⟨rfl, hb1⟩
    clear hR
    go_wp2
    go_loopw [8, 9] (fun o i wr => ∃ (k : Nat) (A : ByteArray), a + 1 ≤ k ∧ k ≤ s.size ∧ o = .string A ∧ i = .int .i64 k ∧ A.size ≤ 4 * k ∧ Below w.heap.size w wr ∧ Hid (validD (s.data.toList.drop k) = true ∧ RQ = readL _ (s.size + 1 - k) (s.data.toList.drop k) A.data.toList k)) (fun _ i _ => s.size - (intOf i).toNat)
    case atStart => exact ⟨a + 1, ⟨#[]⟩, by omega, by omega, rfl, by go_num, Nat.zero_le _, hb1, hid ⟨HV1.out, HRQ.out⟩⟩
  · case round =>
    obtain ⟨k, A, hk1, hk2, rfl, rfl, hA, hb, HI⟩ := hrel
    by_cases hlt : k < s.size
    · have hlti : (k : Int) < (s.size : Int) := by omega
      have hk0 : (0 : Int) ≤ (k : Int) := by omega
      obtain ⟨c, hc⟩ : ∃ c, s[k]'hlt = c := ⟨_, rfl⟩
      have hd := drop_cons s k hlt
      rw [hc] at hd
      have hne := drop_ne s k hlt
      have hvk := HI.out.1
      have hstep := readL_step (q := 34) hvk (f := s.size + 1 - k) (by rw [List.length_drop, ← Lib.size_eq]; omega) A.data.toList (k := k)
      rw [← HI.out.2] at hstep
      have hO := fun wx => One_any s k wx (by omega) hlt
      have hgood : ¬ ((decodeL (s.data.toList.drop k)).1 = 65533 ∧ (decodeL (s.data.toList.drop k)).2 = 1) := fun h => by rw [validD_step _ hne, if_pos h] at hvk; cases hvk
      have henc := encode_decode _ hne hgood
      rw [oneP_decode _ hne, if_neg hgood] at hO
      have hlen : (s.data.toList.drop k).length = s.size - k := by rw [List.length_drop, ← Lib.size_eq]
      have hnx := fun r j (h : oneL 34 (s.data.toList.drop k) = .sign r j) => oneL_next hvk h
      obtain ⟨⟨R, K⟩, hRK⟩ : ∃ x, decodeL (s.data.toList.drop k) = x := ⟨_, rfl⟩
      have hel : (c.toNat : Int) ≠ 34 → ¬ ((c.toNat : Int) = 92 ∧ (34 : Int) = 34) → oneL 34 (s.data.toList.drop k) = if plainN (R : Int) then .sign (R : Int) K else .bad 42 := fun h1 h2 => by
        have h3 := oneL_else (q := 34) (by decide) h1 h2 (t := s.data.toList.drop (k + 1))
        rw [← hd, hRK] at h3
        exact h3
      rw [hRK] at hO henc
      simp only at hO henc
      have HSTEP := hid hstep
      have HENC := hid henc
      have HD := hid hd
      have HNX := hid hnx
      have HLEN := hid hlen
      have HEL := hid hel
      clear hstep henc hd hnx hlen hel hgood hRK hne hvk HI
      by_cases c34 : c = 34
      · subst c34
        have hr := HSTEP.out
        rw [HD.out, oneL_fin (by decide) (by decide) (by rintro ⟨h, _⟩; exact absurd h (by decide))] at hr
        have HR := hid hr
        clear hr
        go_wp2_with fail
        refine (hO _).mono ?_
        rintro e w2 ⟨rfl, hb2⟩
        have hb3 := hb.trans (hb2.mono hb.size)
        clear hO hb hb2
        go_wp2
        refine bodyPost_ret (v := .tuple #[.string A, .int .i64 ((k : Int) + 1), .int .i64 0]) (by simp [results, Tryz.results37, go_sem]) rfl ?_
        rw [HR.out]
        exact ⟨by unfold resQ; rw [mk_lst]; rfl, hb3⟩
      by_cases c92 : c = 92
      · subst c92
        have hE := fun wx => refEsc_any s k wx (by omega) hlt
        rcases escL_cases (s.data.toList.drop (k + 1)) with ⟨r, j, he, hj⟩ | he
        · have ho : oneL 34 (s.data.toList.drop k) = .sign r (1 + j) := by rw [HD.out, oneL_esc, he]; rfl
          obtain ⟨_, j1, j2, j3, _⟩ := HNX.out _ _ ho
          rw [HLEN.out] at j2
          rw [List.drop_drop] at j3
          have hr := HSTEP.out
          rw [ho] at hr
          simp only [List.drop_drop] at hr
          rw [he] at hE
          obtain ⟨X, hX⟩ : ∃ X : ByteArray, (⟨(encodeRune r).toArray⟩ : ByteArray) = X := ⟨_, rfl⟩
          have hXl : X.data.toList = encodeRune r := by rw [← hX]
          have hXs : X.size ≤ 4 := by rw [Lib.size_eq, hXl]; exact enc_four r
          have HR := hid (show RQ = readL 34 (s.size + 1 - (k + 1 + j)) (s.data.toList.drop (k + 1 + j)) (A ++ X).data.toList (k + 1 + j) by rw [app_list, hXl, hr, show k + (1 + j) = k + 1 + j by omega, show s.size + 1 - (k + 1 + j) = s.size + 1 - k - (1 + j) by omega])
          have HJ := hid (show validD (s.data.toList.drop (k + 1 + j)) = true by rw [show k + 1 + j = k + (1 + j) by omega]; exact j3)
          have hE2 : ∀ wx, Calls Tryz.prog 58 #[.string s, .int .i64 k] wx fun e w' => e = .returned (.tuple #[.string X, .int .i64 ((k + 1 + j : Nat) : Int), .bool true]) ∧ Below wx.heap.size wx w' := fun wx => by
            have := hE wx
            unfold EscPost at this
            simp only [hX] at this
            exact this
          clear hr hXl hX j3 ho he hE
          go_wp2_with fail
          refine (hO _).mono ?_
          rintro e w2 ⟨rfl, hb2⟩
          have hb3 := hb.trans (hb2.mono hb.size)
          clear hO hb hb2
          go_wp2_with fail
          refine (hE2 _).mono ?_
          rintro e w3 ⟨rfl, hb4⟩
          have hb5 := hb3.trans (hb4.mono hb3.size)
          clear hE2 hb3 hb4
          go_wp2
          go_roundw
          case rel => exact ⟨k + 1 + j, A ++ X, by omega, by omega, rfl, by go_num, by rw [ByteArray.size_append]; omega, hb5, hid ⟨HJ.out, HR.out⟩⟩
          case measure => simp [intOf]; omega
        · have ho : oneL 34 (s.data.toList.drop k) = .bad 41 := by rw [HD.out, oneL_esc, he]; rfl
          have hr := HSTEP.out
          rw [ho] at hr
          have HR := hid hr
          rw [he] at hE
          have hE2 : ∀ wx, Calls Tryz.prog 58 #[.string s, .int .i64 k] wx fun e w' => (∃ (t : ByteArray) (z : Int), e = .returned (.tuple #[.string t, .int .i64 z, .bool false])) ∧ Below wx.heap.size wx w' := fun wx => hE wx
          clear hr ho he hE
          go_wp2_with fail
          refine (hO _).mono ?_
          rintro e w2 ⟨rfl, hb2⟩
          have hb3 := hb.trans (hb2.mono hb.size)
          clear hO hb hb2
          go_wp2_with fail
          refine (hE2 _).mono ?_
          rintro e w3 ⟨⟨t, z, rfl⟩, hb4⟩
          have hb5 := hb3.trans (hb4.mono hb3.size)
          clear hE2 hb3 hb4
          go_wp2
          refine bodyPost_ret (v := .tuple #[.string ⟨#[]⟩, .int .i64 0, .int .i64 41]) (by simp [results, Tryz.results37, go_sem]) rfl ?_
          rw [HR.out]
          exact ⟨rfl, hb5⟩
      have n34 : (c.toNat : Int) ≠ 34 := fun h => c34 (UInt8.toNat_inj.1 (by show c.toNat = 34; omega))
      have n92 : (c.toNat : Int) ≠ 92 := fun h => c92 (UInt8.toNat_inj.1 (by show c.toNat = 92; omega))
      have hoel := HEL.out n34 (fun h => n92 h.1)
      have b34 : ((c.toNat : Int) == 34) = false := by rw [beq_eq_false_iff_ne]; exact n34
      have b92 : ((c.toNat : Int) == 92) = false := by rw [beq_eq_false_iff_ne]; exact n92
      clear n34 n92 c34 c92
      cases hpl : plainN (R : Int) with
      | true =>
        have ho := hoel
        rw [hpl, if_pos rfl] at ho
        obtain ⟨_, j1, j2, j3, _⟩ := HNX.out _ _ ho
        rw [HLEN.out] at j2
        rw [List.drop_drop] at j3
        have hr := HSTEP.out
        rw [ho] at hr
        simp only [List.drop_drop] at hr
        have hX : (s.extract k (k + K)).data.toList = encodeRune (R : Int) := by rw [extract_take, HENC.out]
        have HR := hid (show RQ = readL 34 (s.size + 1 - (k + K)) (s.data.toList.drop (k + K)) (A ++ s.extract k (k + K)).data.toList (k + K) by rw [app_list, hX, hr, show s.size + 1 - (k + K) = s.size + 1 - k - K by omega])
        have HJ := hid j3
        have hXs : (s.extract k (k + K)).size = K := by rw [ByteArray.size_extract]; omega
        have HXS := hid hXs
        have hKi : (k : Int) + (K : Int) ≤ (s.size : Int) := by omega
        have hK0 : (0 : Int) ≤ (K : Int) := by omega
        have hPl := fun wx => refPlain_same (R : Int) wx
        rw [hpl] at hPl
        clear hr hX hXs j3 ho hpl hoel
        go_wp2_with fail
        refine (hO _).mono ?_
        rintro e w2 ⟨rfl, hb2⟩
        have hb3 := hb.trans (hb2.mono hb.size)
        clear hO hb hb2
        go_wp2_with fail
        refine (hPl _).mono ?_
        rintro e w3 ⟨rfl, hw⟩
        subst w3
        clear hPl
        go_wp2
        go_roundw
        case rel => exact ⟨k + K, A ++ s.extract k (k + K), by omega, by omega, rfl, by go_num, by rw [ByteArray.size_append, HXS.out]; omega, hb3, hid ⟨HJ.out, HR.out⟩⟩
        case measure => simp [intOf]; omega
      | false =>
        have hr := HSTEP.out
        rw [hoel, hpl, if_neg (by decide)] at hr
        have HR := hid hr
        have hPl := fun wx => refPlain_same (R : Int) wx
        rw [hpl] at hPl
        clear hr hpl hoel
        go_wp2_with fail
        refine (hO _).mono ?_
        rintro e w2 ⟨rfl, hb2⟩
        have hb3 := hb.trans (hb2.mono hb.size)
        clear hO hb hb2
        go_wp2_with fail
        refine (hPl _).mono ?_
        rintro e w3 ⟨rfl, hw⟩
        subst w3
        clear hPl
        go_wp2
        refine bodyPost_ret (v := .tuple #[.string ⟨#[]⟩, .int .i64 0, .int .i64 42]) (by simp [results, Tryz.results37, go_sem]) rfl ?_
        rw [HR.out]
        exact ⟨rfl, hb3⟩
    · have hge : (s.size : Int) ≤ (k : Int) := by omega
      have hr := HI.out.2
      rw [List.drop_eq_nil_of_le (show s.data.toList.length ≤ k by rw [← Lib.size_eq]; omega), readL_step (q := 34) (l := []) rfl (by rw [List.length_nil]; omega), oneL_nil] at hr
      have HR := hid hr
      clear hr
      go_wp2
      refine bodyPost_ret (v := .tuple #[.string ⟨#[]⟩, .int .i64 0, .int .i64 42]) (by simp [results, Tryz.results37, go_sem]) rfl ?_
      rw [HR.out]
      exact ⟨rfl, hb⟩
  · case round =>
    obtain ⟨k, A, hk1, hk2, rfl, rfl, hA, hb, HI⟩ := hrel
    by_cases hlt : k < s.size
    · have hlti : (k : Int) < (s.size : Int) := by omega
      have hk0 : (0 : Int) ≤ (k : Int) := by omega
      obtain ⟨c, hc⟩ : ∃ c, s[k]'hlt = c := ⟨_, rfl⟩
      have hd := drop_cons s k hlt
      rw [hc] at hd
      have hne := drop_ne s k hlt
      have hvk := HI.out.1
      have hstep := readL_step (q := 39) hvk (f := s.size + 1 - k) (by rw [List.length_drop, ← Lib.size_eq]; omega) A.data.toList (k := k)
      rw [← HI.out.2] at hstep
      have hO := fun wx => One_any s k wx (by omega) hlt
      have hgood : ¬ ((decodeL (s.data.toList.drop k)).1 = 65533 ∧ (decodeL (s.data.toList.drop k)).2 = 1) := fun h => by rw [validD_step _ hne, if_pos h] at hvk; cases hvk
      have henc := encode_decode _ hne hgood
      rw [oneP_decode _ hne, if_neg hgood] at hO
      have hlen : (s.data.toList.drop k).length = s.size - k := by rw [List.length_drop, ← Lib.size_eq]
      have hnx := fun r j (h : oneL 39 (s.data.toList.drop k) = .sign r j) => oneL_next hvk h
      obtain ⟨⟨R, K⟩, hRK⟩ : ∃ x, decodeL (s.data.toList.drop k) = x := ⟨_, rfl⟩
      have hel : (c.toNat : Int) ≠ 39 → ¬ ((c.toNat : Int) = 92 ∧ (39 : Int) = 34) → oneL 39 (s.data.toList.drop k) = if plainN (R : Int) then .sign (R : Int) K else .bad 42 := fun h1 h2 => by
        have h3 := oneL_else (q := 39) (by decide) h1 h2 (t := s.data.toList.drop (k + 1))
        rw [← hd, hRK] at h3
        exact h3
      rw [hRK] at hO henc
      simp only at hO henc
      have HSTEP := hid hstep
      have HENC := hid henc
      have HD := hid hd
      have HNX := hid hnx
      have HLEN := hid hlen
      have HEL := hid hel
      clear hstep henc hd hnx hlen hel hgood hRK hne hvk HI
      by_cases c39 : c = 39
      · subst c39
        by_cases h2 : k + 1 < s.size
        · have h2i : (k : Int) + 1 < (s.size : Int) := by omega
          obtain ⟨c2, hc2⟩ : ∃ c2, s[k + 1]'h2 = c2 := ⟨_, rfl⟩
          have hd2 := drop_cons s (k + 1) h2
          rw [hc2] at hd2
          by_cases c239 : c2 = 39
          · subst c239
            have ho : oneL 39 (s.data.toList.drop k) = .sign 39 2 := by rw [HD.out, hd2]; exact oneL_two (rune_39.2 rfl) (by simp)
            obtain ⟨_, j1, j2, j3, _⟩ := HNX.out _ _ ho
            rw [List.drop_drop] at j3
            have hr := HSTEP.out
            rw [ho] at hr
            simp only [List.drop_drop] at hr
            have HR := hid (show RQ = readL 39 (s.size + 1 - (k + 2)) (s.data.toList.drop (k + 2)) (A ++ ⟨#[39]⟩).data.toList (k + 2) by rw [app_list, hr, show encodeRune 39 = [39] by decide +kernel, show s.size + 1 - (k + 2) = s.size + 1 - k - 2 by omega])
            have HJ := hid j3
            clear hr j3 ho hd2
            go_wp2_with fail
            refine (hO _).mono ?_
            rintro e w2 ⟨rfl, hb2⟩
            have hb3 := hb.trans (hb2.mono hb.size)
            clear hO hb hb2
            go_wp2
            go_roundw
            case rel => exact ⟨k + 2, A ++ ⟨#[39]⟩, by omega, by omega, rfl, by go_num, by rw [ByteArray.size_append]; show A.size + 1 ≤ _; omega, hb3, hid ⟨HJ.out, HR.out⟩⟩
            case measure => simp [intOf]; omega
          · have b239 : ((c2.toNat : Int) == 39) = false := by rw [beq_eq_false_iff_ne]; exact fun h => c239 (UInt8.toNat_inj.1 (by show c2.toNat = 39; omega))
            have hfin : ¬ ((39 : Int) = 39 ∧ runeL (s.data.toList.drop (k + 1)) = 39 ∧ 0 < (s.data.toList.drop (k + 1)).length) := by
              rintro ⟨_, h, _⟩
              rw [hd2] at h
              exact c239 (rune_39.1 h)
            clear c239 hd2
            have hr := HSTEP.out
            rw [HD.out, oneL_fin (by decide) (by decide) hfin] at hr
            have HR := hid hr
            clear hr
            go_wp2_with fail
            refine (hO _).mono ?_
            rintro e w2 ⟨rfl, hb2⟩
            have hb3 := hb.trans (hb2.mono hb.size)
            clear hO hb hb2
            go_wp2
            refine bodyPost_ret (v := .tuple #[.string A, .int .i64 ((k : Int) + 1), .int .i64 0]) (by simp [results, Tryz.results37, go_sem]) rfl ?_
            rw [HR.out]
            exact ⟨by unfold resQ; rw [mk_lst]; rfl, hb3⟩
        · have h2i : ¬ (k : Int) + 1 < (s.size : Int) := by omega
          have hfin : ¬ ((39 : Int) = 39 ∧ runeL (s.data.toList.drop (k + 1)) = 39 ∧ 0 < (s.data.toList.drop (k + 1)).length) := by
            rintro ⟨_, _, h⟩
            rw [List.length_drop, ← Lib.size_eq] at h
            omega
          have hr := HSTEP.out
          rw [HD.out, oneL_fin (by decide) (by decide) hfin] at hr
          have HR := hid hr
          clear hr
          go_wp2_with fail
          refine (hO _).mono ?_
          rintro e w2 ⟨rfl, hb2⟩
          have hb3 := hb.trans (hb2.mono hb.size)
          clear hO hb hb2
          go_wp2
          refine bodyPost_ret (v := .tuple #[.string A, .int .i64 ((k : Int) + 1), .int .i64 0]) (by simp [results, Tryz.results37, go_sem]) rfl ?_
          rw [HR.out]
          exact ⟨by unfold resQ; rw [mk_lst]; rfl, hb3⟩
      have n39 : (c.toNat : Int) ≠ 39 := fun h => c39 (UInt8.toNat_inj.1 (by show c.toNat = 39; omega))
      have hoel := HEL.out n39 (fun h => by have := h.2; omega)
      have b39 : ((c.toNat : Int) == 39) = false := by rw [beq_eq_false_iff_ne]; exact n39
      clear n39 c39
      cases hb92 : ((c.toNat : Int) == 92)
      all_goals
        cases hpl : plainN (R : Int) with
        | true =>
          have ho := hoel
          rw [hpl, if_pos rfl] at ho
          obtain ⟨_, j1, j2, j3, _⟩ := HNX.out _ _ ho
          rw [HLEN.out] at j2
          rw [List.drop_drop] at j3
          have hr := HSTEP.out
          rw [ho] at hr
          simp only [List.drop_drop] at hr
          have hX : (s.extract k (k + K)).data.toList = encodeRune (R : Int) := by rw [extract_take, HENC.out]
          have HR := hid (show RQ = readL 39 (s.size + 1 - (k + K)) (s.data.toList.drop (k + K)) (A ++ s.extract k (k + K)).data.toList (k + K) by rw [app_list, hX, hr, show s.size + 1 - (k + K) = s.size + 1 - k - K by omega])
          have HJ := hid j3
          have hXs : (s.extract k (k + K)).size = K := by rw [ByteArray.size_extract]; omega
          have HXS := hid hXs
          have hKi : (k : Int) + (K : Int) ≤ (s.size : Int) := by omega
          have hK0 : (0 : Int) ≤ (K : Int) := by omega
          have hPl := fun wx => refPlain_same (R : Int) wx
          rw [hpl] at hPl
          clear hr hX hXs j3 ho hpl hoel
          go_wp2_with fail
          refine (hO _).mono ?_
          rintro e w2 ⟨rfl, hb2⟩
          have hb3 := hb.trans (hb2.mono hb.size)
          clear hO hb hb2
          go_wp2_with fail
          refine (hPl _).mono ?_
          rintro e w3 ⟨rfl, hw⟩
          subst w3
          clear hPl
          go_wp2
          go_roundw
          case rel => exact ⟨k + K, A ++ s.extract k (k + K), by omega, by omega, rfl, by go_num, by rw [ByteArray.size_append, HXS.out]; omega, hb3, hid ⟨HJ.out, HR.out⟩⟩
          case measure => simp [intOf]; omega
        | false =>
          have hr := HSTEP.out
          rw [hoel, hpl, if_neg (by decide)] at hr
          have HR := hid hr
          have hPl := fun wx => refPlain_same (R : Int) wx
          rw [hpl] at hPl
          clear hr hpl hoel
          go_wp2_with fail
          refine (hO _).mono ?_
          rintro e w2 ⟨rfl, hb2⟩
          have hb3 := hb.trans (hb2.mono hb.size)
          clear hO hb hb2
          go_wp2_with fail
          refine (hPl _).mono ?_
          rintro e w3 ⟨rfl, hw⟩
          subst w3
          clear hPl
          go_wp2
          refine bodyPost_ret (v := .tuple #[.string ⟨#[]⟩, .int .i64 0, .int .i64 42]) (by simp [results, Tryz.results37, go_sem]) rfl ?_
          rw [HR.out]
          exact ⟨rfl, hb3⟩
    · have hge : (s.size : Int) ≤ (k : Int) := by omega
      have hr := HI.out.2
      rw [List.drop_eq_nil_of_le (show s.data.toList.length ≤ k by rw [← Lib.size_eq]; omega), readL_step (q := 39) (l := []) rfl (by rw [List.length_nil]; omega), oneL_nil] at hr
      have HR := hid hr
      clear hr
      go_wp2
      refine bodyPost_ret (v := .tuple #[.string ⟨#[]⟩, .int .i64 0, .int .i64 42]) (by simp [results, Tryz.results37, go_sem]) rfl ?_
      rw [HR.out]
      exact ⟨rfl, hb⟩
end Go.Proofs.YtkdhaipjfkalfaaGreatDoor
