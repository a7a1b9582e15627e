import Derived.Test.YtccjfoldjbmnfaaDoorWe
namespace Go.Proofs.YtccjfoldjbmnfaaDoor
open Go Go.RowKit Go.Lib

theorem Trim_any (s : ByteArray) (w : World) (hs : s.size ≤ 1000000) :
    Calls Tryd.prog 34 #[.string s, .string ⟨#[32]⟩] w fun e w' => e = .returned (.string ⟨(Lib.trimB s.data.toList 32).toArray⟩) ∧ Below w.heap.size w w' := by
  refine (Tryd.strings_Trim_one s 32 (by decide) w (by omega)).mono ?_
  rintro e w' ⟨rfl, hw⟩
  refine ⟨rfl, ?_⟩
  rcases hw with rfl | rfl
  · exact Below.refl _ _
  · exact (Below.refl _ _).drew

/-- The first byte of a text, and the rest. -/
theorem head_rest (s : ByteArray) (h0 : 0 < s.size) : s.data.toList = s[0]'h0 :: (s.extract 1 s.size).data.toList := by
  rw [Lib.extract_data, List.take_of_length_le (by rw [List.length_drop, ← Lib.size_eq]; omega)]
  have hl : 0 < s.data.toList.length := by rw [← Lib.size_eq]; exact h0
  have := List.drop_eq_getElem_cons hl
  rw [List.drop_zero] at this
  rw [Nat.zero_add] at this
  exact this

theorem byte_ne (d e : UInt8) : ((d.toNat : Int) != (e.toNat : Int)) = !(d == e) := by
  rw [Bool.eq_iff_iff]
  simp [← UInt8.toNat_inj]
  omega
theorem isEmpty_false {s : ByteArray} (h : 0 < s.size) : s.toList.isEmpty = false := by
  rw [Lib.toList_data]
  cases h' : s.data.toList with
  | nil => exact absurd (by rw [Lib.size_eq, h']; rfl) (show s.size ≠ 0 by omega)
  | cons _ _ => rfl
theorem isEmpty_true {s : ByteArray} (h : ¬ 0 < s.size) : s.toList.isEmpty = true := by
  rw [eq_empty_of_size (show s.size = 0 by omega), Lib.toList_data]; rfl

set_option maxRecDepth 100000 in
set_option maxHeartbeats 400000 in
theorem isBegun_any (s : ByteArray) (w : World) (hs : s.size ≤ 1000000) (h0 : 0 < s.size) :
    Calls Tryd.prog 24 #[.string s] w fun e w' => e = .returned (.bool (begunOK s.data.toList)) ∧ Below w.heap.size w w' := by
  have h0i : (0 : Int) < (s.size : Int) := by omega
  have h1i : (1 : Int) ≤ (s.size : Int) := by omega
  have hl := head_rest s h0
  obtain ⟨c, hc⟩ : ∃ c, s[0]'h0 = c := ⟨_, rfl⟩
  obtain ⟨R, hR⟩ : ∃ R, s.extract 1 s.size = R := ⟨_, rfl⟩
  rw [hc, hR] at hl
  have HL := hid hl; clear hl
  have hcb : (c.toNat : Int) < 256 := by have := c.toNat_lt; omega
  go_enter Tryd.func24, Tryd.ntmps24
  go_wp2
  go_quiet (fail)
  have hb0 := below_drewN (n := nq) (Below.refl w.heap.size w)
  generalize w.drewN nq = w0 at hb0 ⊢
  go_wp2_with fail
  refine (Trim_any s _ hs).mono ?_
  rintro e w1 ⟨rfl, hb1⟩
  have hb01 : Below w.heap.size w w1 := hb0.trans (hb1.mono hb0.size)
  clear hb0 hb1
  by_cases hT : trimB s.data.toList 32 = s.data.toList
  · have hTi : (!trimB s.data.toList 32 == s.toList) = false := by rw [Lib.toList_data, hT]; simp
    have HT := hid hT; clear hT
    go_wp2_with fail
    refine (Tryd.strings_IndexByte ⟨barredL.toArray⟩ c.toNat _).mono ?_
    rintro e w2 ⟨rfl, hw2⟩
    subst hw2
    obtain ⟨k, hk⟩ : ∃ k, Lib.indexByte barredL c = k := ⟨_, rfl⟩
    have hk' : Lib.indexByte (⟨barredL.toArray⟩ : ByteArray).data.toList ((c.toNat : Int).toNat.toUInt8) = k := by rw [← hk]; simp
    rw [hk']
    clear hk'
    have HK := hid hk; clear hk
    by_cases hk0 : 0 ≤ k
    · go_wp2
      go_ret
      exact ⟨by rw [show begunOK s.data.toList = false from (by unfold begunOK; rw [HT.out, HL.out]; simp only [List.headD_cons, List.tail_cons, HK.out]; simp [hk0])]; rfl, hb01⟩
    · go_wp2_with fail
      refine (isOne_new c.toNat [45, 63, 58] _ _ _ rfl (by decide)).mono ?_
      rintro e w3 ⟨rfl, hb3⟩
      have hb03 : Below w.heap.size w w3 := hb01.trans (hb3.mono hb01.size)
      clear hb3
      cases hm : memB [45, 63, 58] (c.toNat : Int) with
      | false =>
        have HM := hid hm; clear hm
        go_wp2
        go_ret
        exact ⟨by rw [show begunOK s.data.toList = true from (by unfold begunOK; rw [HT.out, HL.out]; simp only [List.headD_cons, List.tail_cons, HK.out, HM.out]; simp [hk0])]; rfl, hb03⟩
      | true =>
        have HM := hid hm; clear hm
        by_cases hR0 : 0 < R.size
        · have hRe := isEmpty_false hR0
          have hRi : (0 : Int) < (R.size : Int) := by omega
          have hl2 := head_rest R hR0
          obtain ⟨d, hd⟩ : ∃ d, R[0]'hR0 = d := ⟨_, rfl⟩
          rw [hd] at hl2
          have HL2 := hid hl2; clear hl2
          go_wp2
          go_ret
          exact ⟨by rw [show begunOK s.data.toList = ((d.toNat : Int) != 32) from (by unfold begunOK; rw [HT.out, HL.out]; simp only [List.headD_cons, List.tail_cons, HK.out, HM.out, HL2.out]; rw [show ((d.toNat : Int) != 32) = !(d == 32) from byte_ne d 32]; simp [hk0])]; rfl, hb03⟩
        · have hRe := isEmpty_true hR0
          go_wp2
          go_ret
          exact ⟨by rw [show begunOK s.data.toList = false from (by unfold begunOK; rw [HT.out, HL.out]; simp only [List.headD_cons, List.tail_cons, HK.out, HM.out]; rw [show R.data.toList = [] from (by rw [eq_empty_of_size (show R.size = 0 by omega)])]; simp)]; rfl, hb03⟩
  · have hTi : (!trimB s.data.toList 32 == s.toList) = true := by rw [Lib.toList_data]; simpa using hT
    have HT := hid hT; clear hT
    go_wp2
    go_ret
    exact ⟨by rw [show begunOK s.data.toList = false from (by unfold begunOK; rw [show (trimB s.data.toList 32 == s.data.toList) = false from (by simpa using HT.out)]; simp)]; rfl, hb01⟩
end Go.Proofs.YtccjfoldjbmnfaaDoor
