import Derived.Test.YtiinnnbpbnojgaaGreatDoorQc
import Derived.Lib.MapLaws
/- What is proved: package quote's reader: what stands at a place, in a right text. -/
namespace Go.Proofs.YtiinnnbpbnojgaaGreatDoor
open Go Go.RowKit Go.Lib
set_option linter.unusedSimpArgs false

theorem runeLen_width (l : List UInt8) (hne : l ≠ []) (h : ¬ ((decodeL l).1 = 65533 ∧ (decodeL l).2 = 1)) : runeLen ((decodeL l).1 : Int) = ((decodeL l).2 : Int) := by
  by_cases h1 : (decodeL l).1 = 65533
  · have henc := encode_decode l hne h
    have hle := decodeL_le l hne
    have h3 := enc_len3 ((decodeL l).1 : Int) (by omega)
    have := congrArg List.length henc
    rw [h3, List.length_take] at this
    rw [h1, show (decodeL l).2 = 3 by omega]
    rfl
  · exact runeLen_decode l h1

/-- What stands at a place, x the sign there, k its width. -/
def oneX (s : ByteArray) (q : Int) (i : Nat) (x : Int) (k : Nat) : QP :=
  if s.size ≤ i then .bad 42
  else if x = q then
    (if x = 39 ∧ runeAt s (i + 1) = 39 ∧ i + 1 < s.size then .sign 39 (i + 2) else .fin (i + 1))
  else if x = 92 ∧ q = 34 then escQ s (i + 1)
  else if plainN x then .sign x (i + k) else .bad 42
def oneQ (s : ByteArray) (q : Int) (i : Nat) : QP := oneX s q i (runeAt s i) (Utf8.decode s i).2

theorem oneX_end {s : ByteArray} {q x : Int} {i k : Nat} (h : s.size ≤ i) : oneX s q i x k = .bad 42 := by unfold oneX; rw [if_pos h]

set_option maxHeartbeats 4000000 in
set_option maxRecDepth 100000 in
theorem qone_end (s : ByteArray) (q : Int) (i : Nat) (w : World) (hs : s.size ≤ 1000000) (hi : i ≤ 1000000) (hlen : s.size ≤ i) (hT : Tabs w) :
    Calls Tryz.prog 239 #[rdV s q, .int .i64 i] w fun e w' => e = .returned (qpV (oneQ s q i)) ∧ Below w.heap.size w w' := by
  have hb0 : Below w.heap.size w (w.alloc (.cells #[.string s, .int .i32 q] 327)) := (Below.refl _ w).alloc (Nat.le_refl _) _
  have hA := fun wx hx' => at_any s q i wx hs (by omega) hx'
  have HV := hid (show qpV (oneQ s q i) = qpV (.bad 42) by unfold oneQ; rw [oneX_end hlen])
  have hle : (s.size : Int) ≤ (i : Int) := by omega
  clear hlen
  obtain ⟨V, hV⟩ : ∃ V, qpV (oneQ s q i) = V := ⟨_, rfl⟩
  rw [hV] at HV ⊢
  clear hV
  go_enter Tryz.func239, Tryz.ntmps239
  go_wp2_with fail
  refine (hA _ (hT.below hb0)).mono ?_
  rintro e w1 ⟨rfl, hb1⟩
  have hb2 := hb0.trans (hb1.mono hb0.size)
  obtain ⟨a0, a1⟩ := (RdAt.new hb1).cells
  clear hb1 hA
  go_wp2
  go_ret
  exact ⟨by rw [HV.out]; rfl, hb2⟩

set_option maxHeartbeats 4000000 in
set_option maxRecDepth 100000 in
theorem qone_34 (s : ByteArray) (i : Nat) (w : World) (hs : s.size ≤ 1000000) (hlen : i < s.size) (hv : validD (s.data.toList.drop i) = true) (hT : Tabs w) :
    Calls Tryz.prog 239 #[rdV s 34, .int .i64 i] w fun e w' => e = .returned (qpV (oneQ s 34 i)) ∧ Below w.heap.size w w' := by
  have hb0 : Below w.heap.size w (w.alloc (.cells #[.string s, .int .i32 34] 327)) := (Below.refl _ w).alloc (Nat.le_refl _) _
  obtain ⟨x, hx⟩ : ∃ x, runeAt s i = x := ⟨_, rfl⟩
  obtain ⟨k, hk⟩ : ∃ k, (Utf8.decode s i).2 = k := ⟨_, rfl⟩
  have hA := fun wx hx' => at_any s 34 i wx hs (by omega) hx'
  have hb : ¬ ((Utf8.decode s i).1 = 65533 ∧ (Utf8.decode s i).2 = 1) := fun hbad => by
    rw [validD_at_bad s i hlen hbad.1 hbad.2] at hv; cases hv
  have hrl : runeLen x = (k : Int) := by
    have := runeLen_width (s.data.toList.drop i) (drop_ne s i hlen) (by rw [Lib.decodeL_drop]; exact hb)
    rw [Lib.decodeL_drop, ← runeAt_lt s i hlen, hx, hk] at this
    exact this
  have hk4 : 1 ≤ k ∧ i + k ≤ s.size := by have := decode_le s i hlen; rw [hk] at this; omega
  have hR := fun wx => Tryz.utf8_RuneLen x wx
  rw [hrl] at hR
  rw [hx] at hA
  have hE : qpV (oneQ s 34 i) = qpV (if x = 34 then .fin (i + 1) else if x = 92 then escQ s (i + 1) else if plainN x then .sign x (i + k) else .bad 42) := by
    unfold oneQ oneX
    rw [hx, hk, if_neg (by omega)]
    by_cases h34 : x = 34
    · rw [if_pos h34, if_pos h34, if_neg (by omega)]
    · rw [if_neg h34, if_neg h34]; simp
  have HV := hid hE
  obtain ⟨k1, k2⟩ := hk4
  clear hE hx hk hb hrl hv
  obtain ⟨V, hV⟩ : ∃ V, qpV (oneQ s 34 i) = V := ⟨_, rfl⟩
  rw [hV] at HV ⊢
  clear hV
  have hlt : (i : Int) < (s.size : Int) := by omega
  have k1i : (1 : Int) ≤ (k : Int) := by omega
  have k2i : (i : Int) + (k : Int) ≤ (s.size : Int) := by omega
  go_enter Tryz.func239, Tryz.ntmps239
  go_wp2_with fail
  refine (hA _ (hT.below hb0)).mono ?_
  rintro e w1 ⟨rfl, hb1⟩
  have hb2 := hb0.trans (hb1.mono hb0.size)
  obtain ⟨a0, a1⟩ := (RdAt.new hb1).cells
  clear hb1 hA hb0
  by_cases h34 : x = 34
  · have HR := hid (HV.out.trans (congrArg qpV (if_pos h34)))
    subst h34
    clear HV
    go_wp2
    go_ret
    exact ⟨by rw [HR.out]; rfl, hb2⟩
  have HR := hid (HV.out.trans (congrArg qpV (if_neg h34)))
  have b34 : (x == 34) = false := by simpa using h34
  clear h34 HV
  by_cases h92 : x = 92
  · have HQ := hid (HR.out.trans (congrArg qpV (if_pos h92)))
    subst h92
    clear HR
    go_wp2_with fail
    refine (escape_any s 34 (i + 1) _ hs (by omega) (hT.below hb2)).mono ?_
    rintro e w3 ⟨rfl, hb5⟩
    have hb6 := hb2.trans (hb5.mono hb2.size)
    clear hb5
    rw [← HQ.out]
    go_wp2
    go_ret
    exact ⟨rfl, hb6⟩
  have HQ := hid (HR.out.trans (congrArg qpV (if_neg h92)))
  have b92 : (x == 92) = false := by simpa using h92
  clear h92 HR
  have hPl := fun wx => qPlain_any x wx
  cases hp : plainN x with
  | true =>
    rw [hp] at hPl HQ
    rw [if_pos rfl] at HQ
    clear hp
    go_wp2_with fail
    refine (hPl _).mono ?_
    rintro e w3 ⟨rfl, hw⟩
    subst w3
    clear hPl
    go_wp2_with fail
    refine (hR _).mono ?_
    rintro e w3 ⟨rfl, hw⟩
    subst w3
    clear hR
    go_wp2
    go_ret
    exact ⟨by rw [HQ.out]; rfl, hb2⟩
  | false =>
    rw [hp] at hPl HQ
    rw [if_neg (by decide)] at HQ
    clear hp
    go_wp2_with fail
    refine (hPl _).mono ?_
    rintro e w3 ⟨rfl, hw⟩
    subst w3
    clear hPl
    go_wp2
    go_ret
    exact ⟨by rw [HQ.out]; rfl, hb2⟩
set_option maxHeartbeats 4000000 in
set_option maxRecDepth 100000 in
theorem qone_39 (s : ByteArray) (i : Nat) (w : World) (hs : s.size ≤ 1000000) (hlen : i < s.size) (hv : validD (s.data.toList.drop i) = true) (hT : Tabs w) :
    Calls Tryz.prog 239 #[rdV s 39, .int .i64 i] w fun e w' => e = .returned (qpV (oneQ s 39 i)) ∧ Below w.heap.size w w' := by
  have hb0 : Below w.heap.size w (w.alloc (.cells #[.string s, .int .i32 39] 327)) := (Below.refl _ w).alloc (Nat.le_refl _) _
  obtain ⟨x, hx⟩ : ∃ x, runeAt s i = x := ⟨_, rfl⟩
  obtain ⟨k, hk⟩ : ∃ k, (Utf8.decode s i).2 = k := ⟨_, rfl⟩
  have hA := fun wx hx' => at_any s 39 i wx hs (by omega) hx'
  have hb : ¬ ((Utf8.decode s i).1 = 65533 ∧ (Utf8.decode s i).2 = 1) := fun hbad => by
    rw [validD_at_bad s i hlen hbad.1 hbad.2] at hv; cases hv
  have hrl : runeLen x = (k : Int) := by
    have := runeLen_width (s.data.toList.drop i) (drop_ne s i hlen) (by rw [Lib.decodeL_drop]; exact hb)
    rw [Lib.decodeL_drop, ← runeAt_lt s i hlen, hx, hk] at this
    exact this
  have hk4 : 1 ≤ k ∧ i + k ≤ s.size := by have := decode_le s i hlen; rw [hk] at this; omega
  have hR := fun wx => Tryz.utf8_RuneLen x wx
  rw [hrl] at hR
  rw [hx] at hA
  obtain ⟨y, hy⟩ : ∃ y, runeAt s (i + 1) = y := ⟨_, rfl⟩
  have hA2 := fun wx hx' => at_any s 39 (i + 1) wx hs (by omega) hx'
  rw [hy] at hA2
  have hy2 : y = 39 → (i : Int) + 1 < (s.size : Int) := fun h => by
    rcases Nat.lt_or_ge (i + 1) s.size with h2 | h2
    · omega
    · rw [runeAt_ge s (i + 1) h2] at hy; omega
  have hE : qpV (oneQ s 39 i) = qpV (if x = 39 then (if y = 39 then .sign 39 (i + 2) else .fin (i + 1)) else if plainN x then .sign x (i + k) else .bad 42) := by
    unfold oneQ oneX
    rw [hx, hk, if_neg (by omega), hy]
    by_cases h34 : x = 39
    · rw [if_pos h34, if_pos h34]
      by_cases hy9 : y = 39
      · rw [if_pos hy9, if_pos ⟨h34, hy9, by have := hy2 hy9; omega⟩]
      · rw [if_neg hy9, if_neg (fun h => hy9 h.2.1)]
    · rw [if_neg h34, if_neg h34, if_neg (by omega)]
  have HV := hid hE
  obtain ⟨k1, k2⟩ := hk4
  clear hE hx hk hb hrl hv hy
  obtain ⟨V, hV⟩ : ∃ V, qpV (oneQ s 39 i) = V := ⟨_, rfl⟩
  rw [hV] at HV ⊢
  clear hV
  have hlt : (i : Int) < (s.size : Int) := by omega
  have k1i : (1 : Int) ≤ (k : Int) := by omega
  have k2i : (i : Int) + (k : Int) ≤ (s.size : Int) := by omega
  go_enter Tryz.func239, Tryz.ntmps239
  go_wp2_with fail
  refine (hA _ (hT.below hb0)).mono ?_
  rintro e w1 ⟨rfl, hb1⟩
  have hb2 := hb0.trans (hb1.mono hb0.size)
  have hr1 : RdAt w1 w.heap.size s 39 := RdAt.new hb1
  obtain ⟨a0, a1⟩ := hr1.cells
  clear hb1 hA hb0
  by_cases h39 : x = 39
  · have HR := hid (HV.out.trans (congrArg qpV (if_pos h39)))
    subst h39
    clear HV
    by_cases hy9 : y = 39
    · have HQ := hid (HR.out.trans (congrArg qpV (if_pos hy9)))
      have hlt1 := hy2 hy9
      clear HR
      subst hy9
      clear hy2
      go_wp2_with fail
      refine (hA2 _ (hT.below hb2)).mono ?_
      rintro e w2 ⟨rfl, hb3⟩
      have hb4 := hb2.trans (hb3.mono hb2.size)
      obtain ⟨c0, c1⟩ := (hr1.below hb3).cells
      clear hb3 hA2 a0 a1
      go_wp2
      go_ret
      exact ⟨by rw [HQ.out]; rfl, hb4⟩
    · have HQ := hid (HR.out.trans (congrArg qpV (if_neg hy9)))
      have by9 : (y == 39) = false := by simpa using hy9
      clear HR hy2 hy9
      go_wp2_with fail
      refine (hA2 _ (hT.below hb2)).mono ?_
      rintro e w2 ⟨rfl, hb3⟩
      have hb4 := hb2.trans (hb3.mono hb2.size)
      obtain ⟨c0, c1⟩ := (hr1.below hb3).cells
      clear hb3 hA2 a0 a1
      go_wp2
      go_ret
      exact ⟨by rw [HQ.out]; rfl, hb4⟩
  have HQ := hid (HV.out.trans (congrArg qpV (if_neg h39)))
  have b39 : (x == 39) = false := by simpa using h39
  clear h39 HV hA2 hy2
  by_cases h92 : x = 92
  · subst h92
    have hPl := fun wx => qPlain_any 92 wx
    rw [show plainN 92 = true from rfl] at hPl HQ
    rw [if_pos rfl] at HQ
    go_wp2_with fail
    refine (hPl _).mono ?_
    rintro e w3 ⟨rfl, hw⟩
    subst w3
    clear hPl
    go_wp2_with fail
    refine (hR _).mono ?_
    rintro e w3 ⟨rfl, hw⟩
    subst w3
    clear hR
    go_wp2
    go_ret
    exact ⟨by rw [HQ.out]; rfl, hb2⟩
  have b92 : (x == 92) = false := by simpa using h92
  clear h92
  have hPl := fun wx => qPlain_any x wx
  cases hp : plainN x with
  | true =>
    rw [hp] at hPl HQ
    rw [if_pos rfl] at HQ
    clear hp
    go_wp2_with fail
    refine (hPl _).mono ?_
    rintro e w3 ⟨rfl, hw⟩
    subst w3
    clear hPl
    go_wp2_with fail
    refine (hR _).mono ?_
    rintro e w3 ⟨rfl, hw⟩
    subst w3
    clear hR
    go_wp2
    go_ret
    exact ⟨by rw [HQ.out]; rfl, hb2⟩
  | false =>
    rw [hp] at hPl HQ
    rw [if_neg (by decide)] at HQ
    clear hp
    go_wp2_with fail
    refine (hPl _).mono ?_
    rintro e w3 ⟨rfl, hw⟩
    subst w3
    clear hPl
    go_wp2
    go_ret
    exact ⟨by rw [HQ.out]; rfl, hb2⟩

theorem qone_any (s : ByteArray) (q : Int) (hq : q = 34 ∨ q = 39) (i : Nat) (w : World) (hs : s.size ≤ 1000000) (hi : i ≤ 1000000) (hv : i < s.size → validD (s.data.toList.drop i) = true) (hT : Tabs w) :
    Calls Tryz.prog 239 #[rdV s q, .int .i64 i] w fun e w' => e = .returned (qpV (oneQ s q i)) ∧ Below w.heap.size w w' := by
  rcases Nat.lt_or_ge i s.size with h | h
  · rcases hq with rfl | rfl
    · exact qone_34 s i w hs h (hv h) hT
    · exact qone_39 s i w hs h (hv h) hT
  · exact qone_end s q i w hs hi h hT
end Go.Proofs.YtiinnnbpbnojgaaGreatDoor

/- What is proved: plain facts on the pieces of a quoted text: places go on, within the text, at whole signs. -/
namespace Go.Proofs.YtiinnnbpbnojgaaGreatDoor
open Go Go.RowKit Go.Lib
set_option linter.unusedSimpArgs false
set_option linter.unusedVariables false

theorem valid_rune {s : ByteArray} {i : Nat} (hi : i < s.size) (hv : validD (s.data.toList.drop i) = true) : validD (s.data.toList.drop (i + (Utf8.decode s i).2)) = true := by
  rw [← validD_at s i hi (fun hbad => by rw [validD_at_bad s i hi hbad.1 hbad.2] at hv; cases hv)]
  exact hv
theorem drop_cons (s : ByteArray) (i : Nat) (hi : i < s.size) : s.data.toList.drop i = s[i]'hi :: s.data.toList.drop (i + 1) := by
  rw [List.drop_eq_getElem_cons (by rw [← Lib.size_eq]; exact hi)]; rfl
theorem valid_ascii {s : ByteArray} {i : Nat} (hi : i < s.size) (hv : validD (s.data.toList.drop i) = true) (hb : runeAt s i < 128) : validD (s.data.toList.drop (i + 1)) = true := by
  have h := runeAt_byte s i hi _ rfl hb
  rw [drop_cons s i hi, validD_cons _ _ (by omega)] at hv
  exact hv
theorem hexD_ascii {c : UInt8} {d : Nat} (h : hexD c = some d) : c.toNat < 128 := by
  have hall : ∀ n : Fin 256, (hexD (UInt8.ofNat n.val)).isSome = true → n.val < 128 := by decide +kernel
  have := hall ⟨c.toNat, c.toNat_lt⟩
  simp only [UInt8.ofNat_toNat] at this
  exact this (by rw [h]; rfl)
theorem valid_hex : ∀ (k : Nat) (l : List UInt8) (acc v : Nat), hexN acc (l.take k) = some v → k ≤ l.length → validD l = true → validD (l.drop k) = true
  | 0, _, _, _, _, _, hv => hv
  | k + 1, [], _, _, _, hk, _ => by simp at hk
  | k + 1, c :: t, acc, v, h, hk, hv => by
    rw [List.take_succ_cons] at h
    unfold hexN at h
    split at h
    · cases h
    · rename_i d hd
      rw [validD_cons c t (hexD_ascii hd)] at hv
      exact valid_hex k t _ v h (by simpa using hk) hv
set_option maxRecDepth 100000 in
theorem numQ_next {s : ByteArray} {p k : Nat} {r : Int} {to : Nat} (hp : p ≤ s.size) (hv : p < s.size → validD (s.data.toList.drop p) = true) (hk : 0 < k) (h : numQ s p k = .sign r to) : to = p + k ∧ to ≤ s.size ∧ (to < s.size → validD (s.data.toList.drop to) = true) ∧ Lib.validRune r = true := by
  unfold numQ numL at h
  by_cases hl : (s.data.toList.drop p).length < k
  · rw [if_pos hl] at h; cases h
  · rw [if_neg hl] at h
    cases hx : hexN 0 ((s.data.toList.drop p).take k) with
    | none => rw [hx] at h; cases h
    | some v =>
      rw [hx] at h
      dsimp only at h
      cases hvr : Lib.validRune (v : Int) with
      | false => rw [hvr] at h; cases h
      | true =>
        rw [hvr] at h
        injection h with h1 h2
        have hlen : p + k ≤ s.size := by rw [List.length_drop, ← Lib.size_eq] at hl; omega
        subst h2
        refine ⟨rfl, hlen, fun hlt => ?_, by rw [← h1]; exact hvr⟩
        have := valid_hex k _ 0 v hx (by omega) (hv (by omega))
        rw [List.drop_drop] at this
        exact this
theorem memB_cases {x : Int} (h : memB [34, 92, 47] x = true) : x = 34 ∨ x = 92 ∨ x = 47 := by
  unfold memB at h; simpa using h
theorem shortQ_x {x y : Int} (h : shortQ x = some y) : (x = 110 ∧ y = 10) ∨ (x = 116 ∧ y = 9) ∨ (x = 114 ∧ y = 13) := by
  unfold shortQ at h
  split at h
  · injection h with h; omega
  · split at h
    · injection h with h; omega
    · split at h
      · injection h with h; omega
      · cases h
theorem escQ_next {s : ByteArray} {p : Nat} {r : Int} {to : Nat} (hp : p ≤ s.size) (hv : p < s.size → validD (s.data.toList.drop p) = true) (h : escQ s p = .sign r to) : p < to ∧ to ≤ s.size ∧ (to < s.size → validD (s.data.toList.drop to) = true) ∧ Lib.validRune r = true := by
  unfold escQ escX at h
  split at h
  · cases h
  · rename_i hlt
    have hlt : p < s.size := by omega
    have key : runeAt s p < 128 → to = p + 1 → p < to ∧ to ≤ s.size ∧ (to < s.size → validD (s.data.toList.drop to) = true) := fun hb e => by
      subst e
      exact ⟨by omega, by omega, fun _ => valid_ascii hlt (hv hlt) hb⟩
    have knum : runeAt s p < 128 → ∀ k, 0 < k → numQ s (p + 1) k = .sign r to → p < to ∧ to ≤ s.size ∧ (to < s.size → validD (s.data.toList.drop to) = true) ∧ Lib.validRune r = true := fun hb k hk e => by
      obtain ⟨h1, h2, h3, h4⟩ := numQ_next (by omega) (fun _ => valid_ascii hlt (hv hlt) hb) hk e
      exact ⟨by omega, h2, h3, h4⟩
    split at h
    · rename_i hm
      injection h with h1 h2
      rcases memB_cases hm with e | e | e <;> (have := key (by omega) h2.symm; exact ⟨this.1, this.2.1, this.2.2, by rw [← h1, e]; rfl⟩)
    · split at h
      · rename_i e
        injection h with h1 h2
        have := key (by omega) h2.symm
        exact ⟨this.1, this.2.1, this.2.2, by rw [← h1]; rfl⟩
      · split at h
        · exact knum (by omega) 2 (by omega) h
        · split at h
          · exact knum (by omega) 4 (by omega) h
          · split at h
            · rename_i y hy
              injection h with h1 h2
              subst h1
              rcases shortQ_x hy with ⟨e, rfl⟩ | ⟨e, rfl⟩ | ⟨e, rfl⟩ <;> (have := key (by omega) h2.symm; exact ⟨this.1, this.2.1, this.2.2, rfl⟩)
            · cases h
theorem validRune_dec (l : List UInt8) (hne : l ≠ []) (h : ¬ ((decodeL l).1 = 65533 ∧ (decodeL l).2 = 1)) : Lib.validRune ((decodeL l).1 : Int) = true := by
  have h1 := decodeL_rune l
  have h2 := runeLen_width l hne h
  have h3 := decodeL_width l
  unfold runeLen at h2
  unfold Lib.validRune
  rw [decide_eq_true_eq]
  split at h2
  · omega
  · split at h2
    · omega
    · split at h2
      · omega
      · split at h2
        · omega
        · omega
theorem runeAt_valid {s : ByteArray} {i : Nat} (hi : i < s.size) (hv : validD (s.data.toList.drop i) = true) : Lib.validRune (runeAt s i) = true := by
  rw [runeAt_lt s i hi, ← Lib.decodeL_drop]
  exact validRune_dec _ (drop_ne s i hi) (fun hbad => by rw [Lib.decodeL_drop] at hbad; rw [validD_at_bad s i hi hbad.1 hbad.2] at hv; cases hv)
theorem oneQ_next {s : ByteArray} {q : Int} {i : Nat} {r : Int} {to : Nat} (hi : i ≤ s.size) (hv : i < s.size → validD (s.data.toList.drop i) = true) (h : oneQ s q i = .sign r to) : i < s.size ∧ i < to ∧ to ≤ s.size ∧ (to < s.size → validD (s.data.toList.drop to) = true) ∧ Lib.validRune r = true := by
  unfold oneQ oneX at h
  split at h
  · cases h
  · rename_i hlt
    have hlt : i < s.size := by omega
    refine ⟨hlt, ?_⟩
    split at h
    · rename_i hq
      split at h
      · rename_i h39
        injection h with h1 h2
        subst h2
        have hv1 := valid_ascii hlt (hv hlt) (by omega)
        have hv2 := valid_ascii h39.2.2 hv1 (by omega)
        exact ⟨by omega, by omega, fun _ => hv2, by rw [← h1]; rfl⟩
      · cases h
    · split at h
      · rename_i h92
        obtain ⟨h1, h2, h3, h4⟩ := escQ_next (by omega) (fun _ => valid_ascii hlt (hv hlt) (by omega)) h
        exact ⟨by omega, h2, h3, h4⟩
      · split at h
        · injection h with h1 h2
          subst h2
          have := decode_le s i hlt
          exact ⟨by omega, by omega, fun _ => valid_rune hlt (hv hlt), by rw [← h1]; exact runeAt_valid hlt (hv hlt)⟩
        · cases h

/-- What stands from a place on, up to an end, or a mistake. -/
def piecesF (s : ByteArray) (q : Int) : Nat → Nat → List QP
  | 0, _ => []
  | f + 1, i => match oneQ s q i with
    | .sign r to => .sign r to :: piecesF s q f to
    | .fin to => [.fin to]
    | .bad e => [.bad e]
def piecesQ (s : ByteArray) (q : Int) (i : Nat) : List QP := piecesF s q (s.size + 1 - i) i
theorem piecesF_fuel (s : ByteArray) (q : Int) : ∀ (f g i : Nat), i ≤ s.size → (i < s.size → validD (s.data.toList.drop i) = true) → s.size + 1 - i ≤ f → s.size + 1 - i ≤ g → piecesF s q f i = piecesF s q g i
  | 0, _, i, hi, _, hf, _ => by omega
  | _ + 1, 0, i, hi, _, _, hg => by omega
  | f + 1, g + 1, i, hi, hv, hf, hg => by
    unfold piecesF
    cases ho : oneQ s q i with
    | fin to => rfl
    | bad e => rfl
    | sign r to =>
      obtain ⟨h1, h2, h3, h4, _⟩ := oneQ_next hi hv ho
      exact congrArg _ (piecesF_fuel s q f g to h3 h4 (by omega) (by omega))
theorem piecesQ_sign {s : ByteArray} {q : Int} {i : Nat} {r : Int} {to : Nat} (hi : i ≤ s.size) (hv : i < s.size → validD (s.data.toList.drop i) = true) (h : oneQ s q i = .sign r to) : piecesQ s q i = .sign r to :: piecesQ s q to := by
  obtain ⟨h1, h2, h3, h4, _⟩ := oneQ_next hi hv h
  unfold piecesQ
  obtain ⟨n, hn⟩ : ∃ n, s.size + 1 - i = n + 1 := ⟨s.size - i, by omega⟩
  rw [hn]
  show (match oneQ s q i with | .sign r to => QP.sign r to :: piecesF s q n to | .fin to => [QP.fin to] | .bad e => [QP.bad e]) = _
  rw [h]
  exact congrArg _ (piecesF_fuel s q _ _ to h3 h4 (by omega) (by omega))
theorem piecesQ_fin {s : ByteArray} {q : Int} {i : Nat} {to : Nat} (hi : i ≤ s.size) (h : oneQ s q i = .fin to) : piecesQ s q i = [.fin to] := by
  unfold piecesQ
  obtain ⟨n, hn⟩ : ∃ n, s.size + 1 - i = n + 1 := ⟨s.size - i, by omega⟩
  rw [hn]
  show (match oneQ s q i with | .sign r to => QP.sign r to :: piecesF s q n to | .fin to => [QP.fin to] | .bad e => [QP.bad e]) = _
  rw [h]
theorem piecesQ_bad {s : ByteArray} {q : Int} {i : Nat} {e : Int} (hi : i ≤ s.size) (h : oneQ s q i = .bad e) : piecesQ s q i = [.bad e] := by
  unfold piecesQ
  obtain ⟨n, hn⟩ : ∃ n, s.size + 1 - i = n + 1 := ⟨s.size - i, by omega⟩
  rw [hn]
  show (match oneQ s q i with | .sign r to => QP.sign r to :: piecesF s q n to | .fin to => [QP.fin to] | .bad e => [QP.bad e]) = _
  rw [h]

/-- What a reader makes of pieces. -/
def foldQ : List QP → List UInt8 → List UInt8 × Nat × Int
  | [], _ => ([], 0, 42)
  | .sign r _ :: t, acc => foldQ t (acc ++ encodeRune r)
  | .fin to :: _, acc => (acc, to, 0)
  | .bad e :: _, _ => ([], 0, e)
def quoteAt (s : ByteArray) (p : Int) : Option Int := if p < 0 then none else if h : p.toNat < s.size then (if s[p.toNat]'h = 34 then some 34 else if s[p.toNat]'h = 39 then some 39 else none) else none
/-- Package quote's Read. -/
def readQ (s : ByteArray) (p : Int) : List UInt8 × Nat × Int :=
  if validD s.data.toList then match quoteAt s p with
    | some q => foldQ (piecesQ s q (p.toNat + 1)) []
    | none => ([], 0, 42)
  else ([], 0, 40)
end Go.Proofs.YtiinnnbpbnojgaaGreatDoor
