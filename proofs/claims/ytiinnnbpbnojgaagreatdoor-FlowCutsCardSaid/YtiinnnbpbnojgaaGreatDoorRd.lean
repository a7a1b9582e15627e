import Derived.Test.YtiinnnbpbnojgaaGreatDoorRa
/- What is proved: the reference's way to read one sign is the model's own. -/
namespace Go.Proofs.YtiinnnbpbnojgaaGreatDoor
open Go Go.RowKit Go.Lib
set_option linter.unusedSimpArgs false

theorem b8 (z : Int) (x : UInt8) (h0 : 0 ≤ z) (h1 : z < 256) (h : z.toNat.toUInt8 = x) : (x.toNat : Int) = z := by
  subst h
  simp
  omega
theorem signP_iff (v : Int) : signP v = true ↔ 0 ≤ v ∧ v ≤ 1114111 ∧ (v < 55296 ∨ 57343 < v) := by
  unfold signP; simp [and_assoc]

/-- What is encoded is decoded. -/
theorem dec_enc (v : Int) (hv : signP v = true) (t : List UInt8) : decodeL (encodeRune v ++ t) = (v.toNat, (encodeRune v).length) := by
  obtain ⟨h0, h1, h2⟩ := (signP_iff v).1 hv
  rw [decodeL_N]
  unfold encodeRune
  by_cases c1 : v < 128
  · rw [encodeRuneZ_one (by omega) (by omega)]
    simp only [List.map_cons, List.map_nil, List.cons_append, List.nil_append, List.length_cons, List.getD_cons_zero, List.getD_cons_succ, List.length_nil]
    have e0 := b8 v _ (by omega) (by omega) rfl
    generalize v.toNat.toUInt8 = x0 at *
    unfold decodeN
    rw [if_pos (by omega)]
    congr 1; omega
  by_cases c2 : v < 2048
  · rw [encodeRuneZ_two (by omega) (by omega)]
    simp only [List.map_cons, List.map_nil, List.cons_append, List.nil_append, List.length_cons, List.getD_cons_zero, List.getD_cons_succ, List.length_nil]
    have e0 := b8 (192 + v / 64) _ (by omega) (by omega) rfl
    have e1 := b8 (128 + v % 64) _ (by omega) (by omega) rfl
    generalize (192 + v / 64).toNat.toUInt8 = x0 at *
    generalize (128 + v % 64).toNat.toUInt8 = x1 at *
    unfold decodeN
    rw [if_neg (by omega), if_pos (by omega), if_pos (by omega)]
    congr 1; omega
  by_cases c3 : v < 65536
  · rw [encodeRuneZ_three (by omega)]
    simp only [List.map_cons, List.map_nil, List.cons_append, List.nil_append, List.length_cons, List.getD_cons_zero, List.getD_cons_succ, List.length_nil]
    have e0 := b8 (224 + v / 4096) _ (by omega) (by omega) rfl
    have e1 := b8 (128 + v / 64 % 64) _ (by omega) (by omega) rfl
    have e2 := b8 (128 + v % 64) _ (by omega) (by omega) rfl
    generalize (224 + v / 4096).toNat.toUInt8 = x0 at *
    generalize (128 + v / 64 % 64).toNat.toUInt8 = x1 at *
    generalize (128 + v % 64).toNat.toUInt8 = x2 at *
    unfold decodeN
    rw [if_neg (by omega), if_neg (by omega), if_pos (by omega), if_pos (by omega)]
    congr 1; omega
  · rw [encodeRuneZ_four (by omega) (by omega)]
    simp only [List.map_cons, List.map_nil, List.cons_append, List.nil_append, List.length_cons, List.getD_cons_zero, List.getD_cons_succ, List.length_nil]
    have e0 := b8 (240 + v / 262144) _ (by omega) (by omega) rfl
    have e1 := b8 (128 + v / 4096 % 64) _ (by omega) (by omega) rfl
    have e2 := b8 (128 + v / 64 % 64) _ (by omega) (by omega) rfl
    have e3 := b8 (128 + v % 64) _ (by omega) (by omega) rfl
    generalize (240 + v / 262144).toNat.toUInt8 = x0 at *
    generalize (128 + v / 4096 % 64).toNat.toUInt8 = x1 at *
    generalize (128 + v / 64 % 64).toNat.toUInt8 = x2 at *
    generalize (128 + v % 64).toNat.toUInt8 = x3 at *
    unfold decodeN
    rw [if_neg (by omega), if_neg (by omega), if_neg (by omega), if_pos (by omega), if_pos (by omega)]
    congr 1; omega
theorem enc_len3 (v : Int) (h : v.toNat = 65533) : (encodeRune v).length = 3 := by
  have : v = 65533 := by omega
  subst this; decide

theorem oneK_dec (l : List UInt8) (n0 : Int) (k : Nat) (h : decodeL l = (65533, 1)) : oneK l n0 k = (0, 0) := by
  unfold oneK
  by_cases h1 : l.length < k
  · rw [if_pos h1]
  rw [if_neg h1]
  generalize numAt l n0 (k - 1) = v
  by_cases h2 : signP v = true
  · by_cases h3 : encodeRune v = l.take k
    · have := dec_enc v h2 (l.drop k)
      rw [h3, List.take_append_drop, h, ← h3] at this
      have e1 := congrArg Prod.fst this
      have e2 := congrArg Prod.snd this
      have := enc_len3 v e1.symm
      simp only at e2
      omega
    · simp [h2, h3]
  · simp [h2]

theorem oneP_decode (l : List UInt8) (hne : l ≠ []) : oneP l = if (decodeL l).1 = 65533 ∧ (decodeL l).2 = 1 then (0, 0) else (((decodeL l).1 : Int), ((decodeL l).2 : Int)) := by
  by_cases hbad : (decodeL l).1 = 65533 ∧ (decodeL l).2 = 1
  · rw [if_pos hbad]
    unfold oneP
    exact oneK_dec _ _ _ (Prod.ext hbad.1 hbad.2)
  · rw [if_neg hbad]
    have henc := encode_decode l hne hbad
    have hle := decodeL_le l hne
    have hl : 0 < l.length := List.length_pos_iff.2 hne
    rw [decodeL_N] at hbad henc hle ⊢
    have k0 := (l.getD 0 0).toNat_lt
    have k1 := (l.getD 1 0).toNat_lt
    have k2 := (l.getD 2 0).toNat_lt
    have k3 := (l.getD 3 0).toNat_lt
    have fin : ∀ (n0 : Int) (k r : Nat), leadP (l.getD 0 0).toNat = (n0, k) → numAt l n0 (k - 1) = (r : Int) → k ≤ l.length → signP (r : Int) = true → encodeRune (r : Int) = l.take k → oneP l = ((r : Int), (k : Int)) := by
      intro n0 k r h1 h2 h3 h4 h5
      rw [oneP_of rfl h1]
      unfold oneK
      rw [if_neg (by omega), h2, h4, h5]
      simp
    rcases decodeN_shape l.length (l.getD 0 0).toNat (l.getD 1 0).toNat (l.getD 2 0).toNat (l.getD 3 0).toNat with ⟨c, e⟩ | ⟨c1, c2, c3, cv, e⟩ | ⟨c1, c2, c3, c4, cv, cs, e⟩ | ⟨c1, c2, c3, c4, c5, cv, cw, e⟩ | e
    · rw [e] at henc hle ⊢
      exact fin (((l.getD 0 0).toNat : Nat) : Int) 1 _ (by unfold leadP; rw [if_neg (by omega), if_neg (by omega), if_neg (by omega)]) rfl hle ((signP_iff _).2 (by simp only; omega)) henc
    · rw [e] at henc hle ⊢
      exact fin (((l.getD 0 0).toNat : Int) - 192) 2 _ (by unfold leadP; rw [if_neg (by omega), if_neg (by omega), if_pos (by omega)]) (by simp only [numAt, Nat.zero_add, Nat.reduceAdd, Nat.reduceSub]; omega) hle ((signP_iff _).2 (by simp only; omega)) henc
    · rw [e] at henc hle ⊢
      exact fin (((l.getD 0 0).toNat : Int) - 224) 3 _ (by unfold leadP; rw [if_neg (by omega), if_pos (by omega)]) (by simp only [numAt, Nat.zero_add, Nat.reduceAdd, Nat.reduceSub]; omega) hle ((signP_iff _).2 (by simp only; omega)) henc
    · rw [e] at henc hle ⊢
      exact fin (((l.getD 0 0).toNat : Int) - 240) 4 _ (by unfold leadP; rw [if_pos (by omega)]) (by simp only [numAt, Nat.zero_add, Nat.reduceAdd, Nat.reduceSub]; omega) hle ((signP_iff _).2 (by simp only; omega)) henc
    · rw [e] at hbad
      exact absurd ⟨rfl, rfl⟩ hbad
end Go.Proofs.YtiinnnbpbnojgaaGreatDoor

namespace Go.Proofs.YtiinnnbpbnojgaaGreatDoor
open Go Go.RowKit Go.Lib
set_option linter.unusedSimpArgs false

theorem ownsRow_below {w w' : World} {base : Nat} {e : TypeId} {size : Nat} {v : Value} {n : Nat} {xs : List Value} (h : w.ownsRow base e size v n xs) (hb : Below w.heap.size w w') : w'.ownsRow base e size v n xs := by
  obtain ⟨h1, h2⟩ := h
  refine ⟨h1, ?_⟩
  rcases h2 with h2 | ⟨g, cap, cur, hv, hg, hh, r⟩
  · exact Or.inl h2
  · exact Or.inr ⟨g, cap, cur, hv, hg, heap_below hh hb, r⟩

def runesZ (l : List UInt8) : List Int := (runes l).map fun n : Nat => (n : Int)
theorem runesZ_step (l : List UInt8) (hne : l ≠ []) : runesZ l = ((decodeL l).1 : Int) :: runesZ (l.drop (decodeL l).2) := by
  unfold runesZ
  rw [runes_step l hne, List.map_cons]
/-- A text's signs; what is told of one that is not right. -/
def signsP (l : List UInt8) : List Int × Int := if validD l then (runesZ l, 0) else ([], 40)

theorem info_int : (Tryz.prog.info? 3).map (fun i => (i.zero, i.size, i.bytes)) = some (some (.int .i64 0), 1, 8) := by kernel_rfl

/-- One sign of a right text. -/
theorem one_good (l : List UInt8) (hne : l ≠ []) (h : (oneP l).2 ≠ 0) : ∃ (r k : Nat), oneP l = ((r : Int), (k : Int)) ∧ 1 ≤ k ∧ k ≤ l.length ∧ r ≤ 1114111 ∧ validD l = validD (l.drop k) ∧ runesZ l = (r : Int) :: runesZ (l.drop k) := by
  have hd := oneP_decode l hne
  by_cases hb : (decodeL l).1 = 65533 ∧ (decodeL l).2 = 1
  · rw [if_pos hb] at hd; rw [hd] at h; exact absurd rfl h
  · rw [if_neg hb] at hd
    exact ⟨_, _, hd, decodeL_width l, decodeL_le l hne, decodeL_rune l, by rw [validD_step l hne, if_neg hb], runesZ_step l hne⟩
theorem one_bad (l : List UInt8) (hne : l ≠ []) (h : (oneP l).2 = 0) : oneP l = (0, 0) ∧ validD l = false := by
  have hd := oneP_decode l hne
  have hw := decodeL_width l
  by_cases hb : (decodeL l).1 = 65533 ∧ (decodeL l).2 = 1
  · rw [if_pos hb] at hd
    exact ⟨hd, by rw [validD_step l hne, if_pos hb]⟩
  · rw [if_neg hb] at hd
    rw [hd] at h
    simp only at h
    omega

set_option maxRecDepth 100000 in
set_option maxHeartbeats 400000 in
theorem Signs_any (s : ByteArray) (w : World) (hs : s.size ≤ 1000000) :
    Calls Tryz.prog 115 #[.string s] w fun e w' => ∃ v, e = .returned (.tuple #[v, .int .i64 (signsP s.data.toList).2]) ∧ w'.ownsRow w.heap.size 3 1 v (signsP s.data.toList).1.length ((signsP s.data.toList).1.map (Value.int .i64)) ∧ (signsP s.data.toList).1.length ≤ s.size ∧ Below w.heap.size w w' := by
  obtain ⟨i0, hi, hz0, hz1, hz2⟩ := info_parts info_int
  have hu : Tryz.prog.underlying 221 = some (.slice 3) := by kernel_rfl
  have HU := hid hu; clear hu
  go_enter Tryz.func115, Tryz.ntmps115
  go_wp2
  go_loopw [4, 5] (fun v i wr => ∃ (k : Nat) (rs : List Int), k ≤ s.size ∧ i = .int .i64 k ∧ wr.ownsRow w.heap.size 3 1 v rs.length (rs.map (Value.int .i64)) ∧ rs.length ≤ k ∧ Below w.heap.size w wr ∧ Hid (runesZ s.data.toList = rs ++ runesZ (s.data.toList.drop k)) ∧ Hid (validD s.data.toList = validD (s.data.toList.drop k))) (fun _ i _ => s.size - (intOf i).toNat)
  case atStart => exact ⟨0, [], by omega, rfl, World.ownsRow_nil _ _ _ _, by simp, Below.refl _ _, hid rfl, hid rfl⟩
  case round =>
    obtain ⟨k, rs, hk, rfl, hown, hrs, hb, HR, HV⟩ := hrel
    by_cases hlt : k < s.size
    · have hlti : (k : Int) < (s.size : Int) := by omega
      have hne := drop_ne s k hlt
      by_cases hz : (oneP (s.data.toList.drop k)).2 = 0
      · obtain ⟨e1, e2⟩ := one_bad _ hne hz
        have E1 := hid e1; have E2 := hid e2; clear e1 e2 hz hne
        go_wp2_with fail
        refine (One_any s k wr hs hlt).mono ?_
        rw [E1.out]
        rintro e w1 ⟨rfl, hb1⟩
        have hb2 := hb.trans (hb1.mono hb.size)
        go_wp2
        refine bodyPost_ret (v := .tuple #[.slice none 0 0, .int .i64 40]) (by simp [results, Tryz.results115, go_sem]) rfl ⟨.slice none 0 0, ?_⟩
        rw [show signsP s.data.toList = ([], 40) from (by unfold signsP; rw [HV.out, E2.out]; rfl)]
        exact ⟨rfl, World.ownsRow_nil _ _ _ _, by simp, hb2⟩
      · obtain ⟨r, m, e1, h1, h2, h3, e2, e3⟩ := one_good _ hne hz
        have h2' : k + m ≤ s.size := by rw [List.length_drop, ← Lib.size_eq] at h2; omega
        have HR' := hid (show runesZ s.data.toList = (rs ++ [(r : Int)]) ++ runesZ (s.data.toList.drop (k + m)) by rw [HR.out, e3, List.append_assoc, List.drop_drop]; rfl)
        have HV' := hid (show validD s.data.toList = validD (s.data.toList.drop (k + m)) by rw [HV.out, e2, List.drop_drop])
        have E1 := hid e1
        clear e1 e2 e3 h2 hz hne HR HV
        go_wp2_with fail
        refine (One_any s k wr hs hlt).mono ?_
        rw [E1.out]
        rintro e w1 ⟨rfl, hb1⟩
        have hb2 := hb.trans (hb1.mono hb.size)
        have hown1 := ownsRow_below hown hb1
        clear hown hb hb1
        have hm0 : ¬ (m : Int) = 0 := by omega
        go_wp2_with (first
          | (at_builtin; refine wpList_append_own _ rfl _ _ 221 rfl w.heap.size 3 i0 (.int .i64 0) 1 8 HU.out hi hz0 hz1 hz2 rfl (by decide) _ _ _ rfl (hown1.alloc _) ⟨w1.heap.size, 0, none⟩ 1 1 [.int .i64 (r : Int)] rfl rfl ?c1 ?c2 ?c3 ?c4 ?c5 ?_)
          | go_in)
        case c1 =>
          intro j u hj
          match j, hj with
          | 0, hj => simp at hj; subst hj; simp [Addr.add]
        case c2 => intro u hu; simp at hu; subst hu; rfl
        case c3 => unfold maxLen; omega
        case c4 => omega
        case c5 => have := hb2.size; simp; omega
        · intro v' w2 hown2 hgrow _
          have hb3 : Below w.heap.size w w2 := (hb2.alloc hb2.size _).grown hgrow (by have := hb2.size; simp; omega) (fun j hj => (hown1.lt j hj).1)
          have hown3 : w2.ownsRow w.heap.size 3 1 v' (rs ++ [(r : Int)]).length ((rs ++ [(r : Int)]).map (Value.int .i64)) := by simpa using hown2
          clear hown2 hgrow hown1 hb2
          go_wp2
          go_roundw
          case rel => exact ⟨k + m, rs ++ [(r : Int)], h2', by go_num, hown3, by simp; omega, hb3, HR', HV'⟩
          case measure => simp [intOf]; omega
    · have hge : (s.size : Int) ≤ (k : Int) := by omega
      have hke : s.data.toList.drop k = [] := List.drop_eq_nil_of_le (by rw [← Lib.size_eq]; omega)
      have e1 := HR.out
      have e2 := HV.out
      rw [hke] at e1 e2
      have ES := hid (show signsP s.data.toList = (rs, 0) by
        unfold signsP
        rw [e2, e1]
        show (rs ++ [], (0 : Int)) = _
        rw [List.append_nil])
      clear e1 e2 hke HR HV
      go_wp2
      refine bodyPost_ret (v := .tuple #[u4, .int .i64 0]) (by simp [results, Tryz.results115, go_sem]) rfl ⟨u4, ?_⟩
      rw [ES.out]
      exact ⟨rfl, hown, by show rs.length ≤ s.size; omega, hb⟩

set_option maxRecDepth 100000 in
theorem refRight04_any (s : ByteArray) (w : World) (hs : s.size ≤ 1000000) :
    Calls Tryz.prog 70 #[.string s] w fun e w' => e = .returned (.bool (validD s.data.toList)) ∧ Below w.heap.size w w' := by
  cases hv : validD s.data.toList with
  | true =>
    have HS := hid (show (signsP s.data.toList).2 = 0 by unfold signsP; rw [hv]; rfl)
    clear hv
    go_enter Tryz.func70, Tryz.ntmps70
    go_wp2_with fail
    refine (Signs_any s w hs).mono ?_
    rw [HS.out]
    rintro e w1 ⟨v, rfl, _, _, hb⟩
    go_wp2
    go_ret
    exact ⟨rfl, hb⟩
  | false =>
    have HS := hid (show (signsP s.data.toList).2 = 40 by unfold signsP; rw [hv]; rfl)
    clear hv
    go_enter Tryz.func70, Tryz.ntmps70
    go_wp2_with fail
    refine (Signs_any s w hs).mono ?_
    rw [HS.out]
    rintro e w1 ⟨v, rfl, _, _, hb⟩
    go_wp2
    go_ret
    exact ⟨rfl, hb⟩
end Go.Proofs.YtiinnnbpbnojgaaGreatDoor

namespace Go.Proofs.YtiinnnbpbnojgaaGreatDoor
open Go Go.RowKit Go.Lib
set_option linter.unusedSimpArgs false

theorem getElem_list (s : ByteArray) (k : Nat) (h : k < s.size) : s.data.toList[k]'(by rw [← Lib.size_eq]; exact h) = s[k]'h := rfl

def amongB (l : List UInt8) (c : UInt8) : Bool := l.contains c
theorem amongB_iff {l : List UInt8} {c : UInt8} : amongB l c = true ↔ c ∈ l := List.contains_iff_mem
theorem contains_take {l : List UInt8} {c : UInt8} {k : Nat} (h : k < l.length) : amongB (l.take (k + 1)) c = (amongB (l.take k) c || c == l[k]) := by
  unfold amongB
  rw [Bool.eq_iff_iff, List.contains_iff_mem, List.take_succ_eq_append_getElem h, List.mem_append, List.mem_singleton, Bool.or_eq_true, List.contains_iff_mem, beq_iff_eq]

set_option maxRecDepth 100000 in
theorem Among_same (c : UInt8) (s : ByteArray) (w : World) (hs : s.size ≤ 1000000) :
    Calls Tryz.prog 163 #[.int .u8 c.toNat, .string s] w fun e w' => e = .returned (.bool (amongB s.data.toList c)) ∧ w' = w := by
  go_enter Tryz.func163, Tryz.ntmps163
  go_wp2
  go_loop [5] (fun i => ∃ k : Nat, k ≤ s.size ∧ i = .int .i64 k ∧ Hid (amongB (s.data.toList.take k) c = false)) (fun i => s.size - (intOf i).toNat)
  case atStart => exact ⟨0, by omega, rfl, hid rfl⟩
  case round =>
    obtain ⟨k, hk, rfl, HI⟩ := hrel
    by_cases hlt : k < s.size
    · have hlti : (k : Int) < (s.size : Int) := by omega
      obtain ⟨d, hd⟩ : ∃ d, s[k]'hlt = d := ⟨_, rfl⟩
      have hT := hid (contains_take (l := s.data.toList) (c := c) (k := k) (by rw [← Lib.size_eq]; exact hlt))
      have HD := hid ((getElem_list s k hlt).trans hd)
      cases he : ((d.toNat : Int) == (c.toNat : Int)) with
      | true =>
        have hdc : c = d := by
          have : (d.toNat : Int) = (c.toNat : Int) := by simpa using he
          exact (UInt8.toNat_inj.1 (by omega : d.toNat = c.toNat)).symm
        have HF := hid (show amongB s.data.toList c = true by
          have h1 := hT.out
          rw [HD.out, hdc] at h1
          simp only [BEq.rfl, Bool.or_true] at h1
          rw [amongB_iff] at h1 ⊢
          exact List.mem_of_mem_take (hdc ▸ h1))
        clear hdc hT HI
        go_wp2
        go_ret
        exact ⟨by rw [HF.out]; rfl, rfl⟩
      | false =>
        have hdc : (c == d) = false := by
          have : ¬ (d.toNat : Int) = (c.toNat : Int) := by simpa using he
          cases hcd : (c == d) with
          | false => rfl
          | true => exact absurd (by rw [eq_of_beq hcd]) this
        have HI' := hid (show amongB (s.data.toList.take (k + 1)) c = false by rw [hT.out, HI.out, HD.out, hdc]; rfl)
        clear hdc hT HI
        go_wp2
        go_round
        case rel => exact ⟨k + 1, by omega, by go_num, HI'⟩
        case measure => simp [intOf]; omega
    · have hge : (s.size : Int) ≤ (k : Int) := by omega
      have HF := hid (show amongB s.data.toList c = false by
        have h := HI.out
        rwa [List.take_of_length_le (by rw [← Lib.size_eq]; omega)] at h)
      go_wp2
      go_ret
      exact ⟨by rw [HF.out]; rfl, rfl⟩

theorem Digit_same (c : UInt8) (w : World) :
    Calls Tryz.prog 199 #[.int .u8 c.toNat] w fun e w' => e = .returned (.bool (isDigB c)) ∧ w' = w := by
  go_enter Tryz.func199, Tryz.ntmps199
  go_wp2
  all_goals (go_ret; refine ⟨?_, rfl⟩)
  all_goals (refine congrArg (fun b => Ending.returned (Value.bool b)) (?_ : _ = isDigB c); unfold isDigB; rw [Bool.eq_iff_iff]; simp; omega)

theorem refPlain_same (n : Int) (w : World) :
    Calls Tryz.prog 116 #[.int .i64 n] w fun e w' => e = .returned (.bool (plainN n)) ∧ w' = w := by
  go_enter Tryz.func116, Tryz.ntmps116
  go_wp2
  all_goals (go_ret; refine ⟨?_, rfl⟩)
  all_goals (refine congrArg (fun b => Ending.returned (Value.bool b)) (?_ : _ = plainN n); unfold plainN; rw [Bool.eq_iff_iff]; simp; omega)

/-- Is a text right, all its signs plain? -/
def plainR (l : List UInt8) : Bool := (signsP l).1.all plainN && (signsP l).2 == 0

theorem all_take {zs : List Int} {k : Nat} (h : k < zs.length) : (zs.take (k + 1)).all plainN = ((zs.take k).all plainN && plainN zs[k]) := by
  rw [List.take_succ_eq_append_getElem h, List.all_append]
  simp
theorem all_false {zs : List Int} {k : Nat} (h : k < zs.length) (hz : plainN zs[k] = false) : zs.all plainN = false := by
  rw [← Bool.not_eq_true, List.all_eq_true]
  intro h2
  have := h2 _ (List.getElem_mem h)
  rw [hz] at this; cases this

set_option maxRecDepth 100000 in
set_option maxHeartbeats 400000 in
theorem plainR_any (s : ByteArray) (w : World) (hs : s.size ≤ 1000000) :
    Calls Tryz.prog 200 #[.string s] w fun e w' => e = .returned (.bool (plainR s.data.toList)) ∧ Below w.heap.size w w' := by
  have HP : Hid (plainR s.data.toList = ((signsP s.data.toList).1.all plainN && (signsP s.data.toList).2 == 0)) := hid rfl
  obtain ⟨zs, hzs⟩ : ∃ zs, (signsP s.data.toList).1 = zs := ⟨_, rfl⟩
  obtain ⟨er, her⟩ : ∃ er, (signsP s.data.toList).2 = er := ⟨_, rfl⟩
  have hP := HP.out
  rw [hzs, her] at hP
  have HP2 := hid hP; clear hP HP
  have hS := Signs_any s w hs
  rw [hzs, her] at hS
  clear hzs her
  go_enter Tryz.func200, Tryz.ntmps200
  go_wp2_with fail
  refine hS.mono ?_
  clear hS
  rintro e w1 ⟨v, rfl, hown, hlen, hb⟩
  obtain ⟨ho1, ⟨rfl, ho2⟩ | ⟨g, cap, cur, rfl, hg, hh, hn1, hn2, hn3, hn4⟩⟩ := id hown
  · have hz0 : zs = [] := by simpa using ho2
    subst hz0
    clear ho1 ho2 hown
    go_wp2
    go_rounds 1
    go_ret
    exact ⟨by rw [HP2.out]; rfl, hb⟩
  · have hcell : ∀ k (h : k < zs.length), w1.cell? ⟨g, k, none⟩ = some (.int .i64 zs[k]) := fun k h => by
      rw [hown.cellAt k (by omega)]; simp [h]
    have HC := hid hcell
    clear ho1 hn3 hn4 hh hcell hown
    go_wp2
    go_loop [5] (fun i => ∃ k : Nat, k ≤ zs.length ∧ i = .int .i64 k ∧ Hid ((zs.take k).all plainN = true)) (fun i => zs.length - (intOf i).toNat)
    case atStart => exact ⟨0, by omega, rfl, hid rfl⟩
    case round =>
      obtain ⟨k, hk, rfl, HI⟩ := hrel
      by_cases hlt : k < zs.length
      · have hlti : (k : Int) < (zs.length : Int) := by omega
        have hc := HC.out k hlt
        have HT := hid (all_take hlt)
        have HF := hid (all_false hlt)
        obtain ⟨z, hz⟩ : ∃ z, zs[k]'hlt = z := ⟨_, rfl⟩
        rw [hz] at hc
        have HZ := hid hz; clear hz
        cases hp : plainN z with
        | true =>
          have HI' := hid (show (zs.take (k + 1)).all plainN = true by rw [HT.out, HI.out, HZ.out, hp]; rfl)
          go_wp2_with fail
          refine (refPlain_same z _).mono ?_
          rintro e w2 ⟨rfl, rfl⟩
          go_wp2
          go_round
          case rel => exact ⟨k + 1, by omega, by go_num, HI'⟩
          case measure => simp [intOf]; omega
        | false =>
          have HF' := hid (HF.out (by rw [HZ.out, hp]))
          go_wp2_with fail
          refine (refPlain_same z _).mono ?_
          rintro e w2 ⟨rfl, rfl⟩
          go_wp2
          go_ret
          exact ⟨by rw [HP2.out, HF'.out]; rfl, hb⟩
      · have hge : (zs.length : Int) ≤ (k : Int) := by omega
        have HF := hid (show zs.all plainN = true by
          have h := HI.out
          rwa [List.take_of_length_le (by omega)] at h)
        go_wp2
        go_ret
        exact ⟨by rw [HP2.out, HF.out]; rfl, hb⟩
end Go.Proofs.YtiinnnbpbnojgaaGreatDoor
