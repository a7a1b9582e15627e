import Derived.Test.YtiinnnbpbnojgaaGreatDoorRd
namespace Go.Proofs.YtiinnnbpbnojgaaGreatDoor
open Go Go.RowKit Go.Lib
set_option linter.unusedSimpArgs false

def flowL : List UInt8 := [44, 91, 93, 123, 125]
def bad1 (l : List UInt8) (i : Nat) : Bool := l.getD i 0 == 58 && (i + 1 == l.length || l.getD (i + 1) 0 == 32)
def bad2 (l : List UInt8) (i : Nat) : Bool := l.getD i 0 == 35 && (decide (0 < i) && l.getD (i - 1) 0 == 32)
def badR (l : List UInt8) (flow : Bool) (i : Nat) : Bool := bad1 l i || bad2 l i || (flow && amongB flowL (l.getD i 0))
/-- None of the first k places is bad. -/
def okR (l : List UInt8) (flow : Bool) (k : Nat) : Bool := (List.range k).all fun i => !badR l flow i
theorem okR_succ (l : List UInt8) (flow : Bool) (k : Nat) : okR l flow (k + 1) = (okR l flow k && !badR l flow k) := by
  unfold okR
  rw [List.range_succ, List.all_append]
  simp
theorem okR_bad {l : List UInt8} {flow : Bool} {k n : Nat} (hk : k < n) (h : badR l flow k = true) : okR l flow n = false := by
  unfold okR
  rw [← Bool.not_eq_true, List.all_eq_true]
  intro h2
  have := h2 k (List.mem_range.2 hk)
  rw [h] at this; cases this
/-- What stands ahead: the tests on the first signs. -/
def headR (l : List UInt8) : Bool := !l.isEmpty && (plainR l && (!(l.getD 0 0 == 32) && (!(l.getD (l.length - 1) 0 == 32) && !amongB barredL (l.getD 0 0))))
def dashR (l : List UInt8) : Bool := amongB [45, 63, 58] (l.getD 0 0) && (l.length == 1 || l.getD 1 0 == 32)
def mayR (l : List UInt8) (flow : Bool) : Bool := headR l && (!dashR l && okR l flow l.length)

theorem byte_eq (d e : UInt8) : ((d.toNat : Int) == (e.toNat : Int)) = (d == e) := by
  rw [Bool.eq_iff_iff]
  simp [← UInt8.toNat_inj]
  omega
theorem getD_byte (s : ByteArray) (i : Nat) (h : i < s.size) : s.data.toList.getD i 0 = s[i]'h := by
  have h2 : i < s.data.toList.length := by rw [← Lib.size_eq]; exact h
  rw [List.getD, List.getElem?_eq_getElem h2]
  rfl

set_option maxRecDepth 100000 in
set_option maxHeartbeats 4000000 in
theorem mayR_any (s : ByteArray) (flow : Bool) (w : World) (hs : s.size ≤ 1000000) :
    Calls Tryz.prog 166 #[.string s, .bool flow] w fun e w' => e = .returned (.bool (mayR s.data.toList flow)) ∧ Below w.heap.size w w' := by
  by_cases h0 : 0 < s.size
  · have he := isEmpty_false h0
    have HE := hid (show s.data.toList.isEmpty = false by rw [← Lib.toList_data]; exact he)
    have h0i : (0 : Int) < (s.size : Int) := by omega
    have hPl := plainR_any s w hs
    obtain ⟨c, hc⟩ : ∃ c, s[0]'h0 = c := ⟨_, rfl⟩
    have hcb : (c.toNat : Int) < 256 := by have := c.toNat_lt; omega
    have HC := hid ((getD_byte s 0 h0).trans hc)
    have HHD : Hid (headR s.data.toList = (plainR s.data.toList && (!(c == 32) && (!(s.data.toList.getD (s.data.toList.length - 1) 0 == 32) && !amongB barredL c)))) := hid (by unfold headR; rw [HE.out, HC.out]; rfl)
    cases hp : plainR s.data.toList with
    | false =>
      rw [hp] at hPl
      have HH := hid (show headR s.data.toList = false by rw [HHD.out, hp]; rfl)
      clear hp
      go_enter Tryz.func166, Tryz.ntmps166
      go_wp2_with fail
      refine hPl.mono ?_
      clear hPl
      rintro e w1 ⟨rfl, hb⟩
      go_wp2
      go_ret
      exact ⟨by rw [show mayR s.data.toList flow = false from (by unfold mayR; rw [HH.out]; rfl)]; rfl, hb⟩
    | true =>
      rw [hp] at hPl
      have HPL := hid hp; clear hp
      cases h32 : ((c.toNat : Int) == 32) with
      | true =>
        have HH := hid (show headR s.data.toList = false by rw [HHD.out, show (c == 32) = true from (byte_eq c 32).symm.trans h32]; simp)
        go_enter Tryz.func166, Tryz.ntmps166
        go_wp2_with fail
        refine hPl.mono ?_
        clear hPl
        rintro e w1 ⟨rfl, hb⟩
        go_wp2
        go_ret
        exact ⟨by rw [show mayR s.data.toList flow = false from (by unfold mayR; rw [HH.out]; rfl)]; rfl, hb⟩
      | false =>
        have HC32 := hid (show (c == 32) = false from (byte_eq c 32).symm.trans h32)
        have hlz : (s.size : Int) - 1 < (s.size : Int) := by omega
        have hlz0 : 0 ≤ (s.size : Int) - 1 := by omega
        obtain ⟨z, hz⟩ : ∃ z, s[s.size - 1]'(by omega) = z := ⟨_, rfl⟩
        have HZ := hid ((getD_byte s (s.size - 1) (by omega)).trans hz)
        have hzb : (z.toNat : Int) < 256 := by have := z.toNat_lt; omega
        have hzt : ((s.size : Int) - 1).toNat = s.size - 1 := by omega
        cases hz32 : ((z.toNat : Int) == 32) with
        | true =>
          have HH := hid (show headR s.data.toList = false by rw [HHD.out, ← Lib.size_eq, HZ.out, show (z == 32) = true from (byte_eq z 32).symm.trans hz32]; simp)
          go_enter Tryz.func166, Tryz.ntmps166
          go_wp2_with fail
          refine hPl.mono ?_
          clear hPl
          rintro e w1 ⟨rfl, hb⟩
          go_wp2
          go_ret
          exact ⟨by rw [show mayR s.data.toList flow = false from (by unfold mayR; rw [HH.out]; rfl)]; rfl, hb⟩
        | false =>
          have HZ32 := hid (show (z == 32) = false from (byte_eq z 32).symm.trans hz32)
          cases ha : amongB barredL c with
          | true =>
            have HH := hid (show headR s.data.toList = false by rw [HHD.out, ha]; simp)
            go_enter Tryz.func166, Tryz.ntmps166
            go_wp2_with fail
            refine hPl.mono ?_
            clear hPl
            rintro e w1 ⟨rfl, hb⟩
            have hA := Among_same c ⟨barredL.toArray⟩ w1 (by decide)
            rw [show amongB (⟨barredL.toArray⟩ : ByteArray).data.toList c = true from ha] at hA
            clear ha
            go_wp2_with fail
            refine hA.mono ?_
            rintro e w2 ⟨rfl, rfl⟩
            go_wp2
            go_ret
            exact ⟨by rw [show mayR s.data.toList flow = false from (by unfold mayR; rw [HH.out]; rfl)]; rfl, hb⟩
          | false =>
            have HH := hid (show headR s.data.toList = true by rw [HHD.out, HPL.out, HC32.out, ← Lib.size_eq, HZ.out, HZ32.out, ha]; rfl)
            clear HHD HPL HC32 HZ HZ32
            have HDD : Hid (dashR s.data.toList = (amongB [45, 63, 58] c && (s.data.toList.length == 1 || s.data.toList.getD 1 0 == 32))) := hid (by unfold dashR; rw [HC.out])
            have HAA := hid ha; clear ha
            cases hd1 : amongB [45, 63, 58] c with
            | false =>
              have HDA := hid (show dashR s.data.toList = false by rw [HDD.out, hd1]; rfl)
              have HA2 := hid hd1; clear hd1
              go_enter Tryz.func166, Tryz.ntmps166
              go_wp2_with fail
              refine hPl.mono ?_
              clear hPl
              rintro e w1 ⟨rfl, hb⟩
              have hA := Among_same c ⟨barredL.toArray⟩ w1 (by decide)
              rw [show amongB (⟨barredL.toArray⟩ : ByteArray).data.toList c = false from HAA.out] at hA
              go_wp2_with fail
              refine hA.mono ?_
              clear hA
              rintro e w2 ⟨rfl, rfl⟩
              have hA := Among_same c ⟨#[45, 63, 58]⟩ w2 (by decide)
              rw [show amongB (⟨#[45, 63, 58]⟩ : ByteArray).data.toList c = false from HA2.out] at hA
              go_wp2_with fail
              refine hA.mono ?_
              clear hA
              rintro e w3 ⟨rfl, rfl⟩
              go_wp2
              go_loopw [5] (fun i wr => ∃ k : Nat, k ≤ s.size ∧ i = .int .i64 k ∧ Below w.heap.size w wr ∧ Hid (okR s.data.toList flow k = true)) (fun i _ => s.size - (intOf i).toNat)
              case atStart => exact ⟨0, by omega, rfl, by assumption, hid rfl⟩
              case round =>
                obtain ⟨k, hk, rfl, hbr, HI⟩ := hrel
                by_cases hlt : k < s.size
                · have hlti : (k : Int) < (s.size : Int) := by omega
                  obtain ⟨d, hd⟩ : ∃ d, s[k]'hlt = d := ⟨_, rfl⟩
                  have HD := hid ((getD_byte s k hlt).trans hd)
                  have HS := hid (okR_succ s.data.toList flow k)
                  have HX := hid (fun h => okR_bad (l := s.data.toList) (flow := flow) (k := k) (n := s.data.toList.length) (by rw [← Lib.size_eq]; exact hlt) h)
                  have HB : Hid (badR s.data.toList flow k = (bad1 s.data.toList k || bad2 s.data.toList k || (flow && amongB flowL d))) := hid (by unfold badR; rw [HD.out])
                  have hdb : (d.toNat : Int) < 256 := by have := d.toNat_lt; omega
                  cases h58 : ((d.toNat : Int) == 58) with
                  | true =>
                    have E58 := hid ((byte_eq d 58).symm.trans h58)
                    have h35 : ((d.toNat : Int) == 35) = false := by simp at h58 ⊢; omega
                    have E35 := hid ((byte_eq d 35).symm.trans h35)
                    have H2 := hid (show bad2 s.data.toList k = false by unfold bad2; rw [HD.out, E35.out]; rfl)
                    by_cases hl : k + 1 = s.size
                    · have hli : ((k : Int) == (s.size : Int) - 1) = true := by simp; omega
                      have H1 := hid (show bad1 s.data.toList k = true by unfold bad1; rw [HD.out, E58.out, ← Lib.size_eq, hl]; simp)
                      have HF := hid (HX.out (by rw [HB.out]; rw [H1.out]; simp))
                      go_wp2
                      go_ret
                      exact ⟨by rw [show mayR s.data.toList flow = false from (by unfold mayR; rw [HF.out]; simp)]; rfl, hbr⟩
                    · have hli : ((k : Int) == (s.size : Int) - 1) = false := by simp; omega
                      have hl2 : (k : Int) + 1 < (s.size : Int) := by omega
                      obtain ⟨x, hx⟩ : ∃ x, s[k + 1]'(by omega) = x := ⟨_, rfl⟩
                      have HXX := hid ((getD_byte s (k + 1) (by omega)).trans hx)
                      have HN := hid (show (k + 1 == s.data.toList.length) = false by rw [← Lib.size_eq]; simpa using hl)
                      have hxb : (x.toNat : Int) < 256 := by have := x.toNat_lt; omega
                      cases h32 : ((x.toNat : Int) == 32) with
                      | true =>
                        have E32 := hid ((byte_eq x 32).symm.trans h32)
                        have H1 := hid (show bad1 s.data.toList k = true by unfold bad1; rw [HD.out, E58.out, HXX.out, E32.out]; simp)
                        have HF := hid (HX.out (by rw [HB.out]; rw [H1.out]; simp))
                        go_wp2
                        go_ret
                        exact ⟨by rw [show mayR s.data.toList flow = false from (by unfold mayR; rw [HF.out]; simp)]; rfl, hbr⟩
                      | false =>
                        have E32 := hid ((byte_eq x 32).symm.trans h32)
                        have H1 := hid (show bad1 s.data.toList k = false by unfold bad1; rw [HD.out, E58.out, HXX.out, E32.out, HN.out]; simp)
                        cases flow with
                        | false =>
                          have HI' := hid (show okR s.data.toList false (k + 1) = true by rw [HS.out, HI.out, HB.out, H1.out, H2.out]; rfl)
                          go_wp2
                          go_roundw
                          case rel => exact ⟨k + 1, by omega, by go_num, hbr, HI'⟩
                          case measure => simp [intOf]; omega
                        | true =>
                          have hA := Among_same d ⟨flowL.toArray⟩ wr (by decide)
                          cases ha : amongB flowL d with
                          | true =>
                            have HF := hid (HX.out (by rw [HB.out, ha]; simp))
                            rw [show amongB (⟨flowL.toArray⟩ : ByteArray).data.toList d = true from ha] at hA
                            go_wp2_with fail
                            refine hA.mono ?_
                            rintro e w2 ⟨rfl, rfl⟩
                            go_wp2
                            go_ret
                            exact ⟨by rw [show mayR s.data.toList true = false from (by unfold mayR; rw [HF.out]; simp)]; rfl, hbr⟩
                          | false =>
                            have HI' := hid (show okR s.data.toList true (k + 1) = true by rw [HS.out, HI.out, HB.out, H1.out, H2.out, ha]; rfl)
                            rw [show amongB (⟨flowL.toArray⟩ : ByteArray).data.toList d = false from ha] at hA
                            go_wp2_with fail
                            refine hA.mono ?_
                            rintro e w2 ⟨rfl, rfl⟩
                            go_wp2
                            go_roundw
                            case rel => exact ⟨k + 1, by omega, by go_num, hbr, HI'⟩
                            case measure => simp [intOf]; omega
                  | false =>
                    have E58 := hid ((byte_eq d 58).symm.trans h58)
                    have H1 := hid (show bad1 s.data.toList k = false by unfold bad1; rw [HD.out, E58.out]; rfl)
                    cases h35 : ((d.toNat : Int) == 35) with
                    | true =>
                      have E35 := hid ((byte_eq d 35).symm.trans h35)
                      by_cases hk0 : k = 0
                      · have hk0i : (k : Int) = 0 := by omega
                        have hk0j : ¬ (0 : Int) < (k : Int) := by omega
                        have H2 := hid (show bad2 s.data.toList k = false by unfold bad2; rw [hk0]; simp)
                        have HK := hid hk0i; clear hk0 hk0i
                        cases flow with
                        | false =>
                          have HI' := hid (show okR s.data.toList false (k + 1) = true by rw [HS.out, HI.out, HB.out, H1.out, H2.out]; rfl)
                          go_wp2
                          go_roundw
                          case rel => exact ⟨k + 1, by omega, by go_num, hbr, HI'⟩
                          case measure => simp [intOf]; omega
                        | true =>
                          have hA := Among_same d ⟨flowL.toArray⟩ wr (by decide)
                          cases ha : amongB flowL d with
                          | true =>
                            have HF := hid (HX.out (by rw [HB.out, ha]; simp))
                            rw [show amongB (⟨flowL.toArray⟩ : ByteArray).data.toList d = true from ha] at hA
                            go_wp2_with fail
                            refine hA.mono ?_
                            rintro e w2 ⟨rfl, rfl⟩
                            go_wp2
                            go_ret
                            exact ⟨by rw [show mayR s.data.toList true = false from (by unfold mayR; rw [HF.out]; simp)]; rfl, hbr⟩
                          | false =>
                            have HI' := hid (show okR s.data.toList true (k + 1) = true by rw [HS.out, HI.out, HB.out, H1.out, H2.out, ha]; rfl)
                            rw [show amongB (⟨flowL.toArray⟩ : ByteArray).data.toList d = false from ha] at hA
                            go_wp2_with fail
                            refine hA.mono ?_
                            rintro e w2 ⟨rfl, rfl⟩
                            go_wp2
                            go_roundw
                            case rel => exact ⟨k + 1, by omega, by go_num, hbr, HI'⟩
                            case measure => simp [intOf]; omega
                      · have hj : (k : Int) - 1 < (s.size : Int) := by omega
                        have hk0j : (0 : Int) < (k : Int) := by omega
                        have hj0 : 0 ≤ (k : Int) - 1 := by omega
                        have hjt : ((k : Int) - 1).toNat = k - 1 := by omega
                        obtain ⟨x, hx⟩ : ∃ x, s[k - 1]'(by omega) = x := ⟨_, rfl⟩
                        have HXX := hid ((getD_byte s (k - 1) (by omega)).trans hx)
                        have hxb : (x.toNat : Int) < 256 := by have := x.toNat_lt; omega
                        have HK := hid (show decide (0 < k) = true by simp; omega)
                        cases h32 : ((x.toNat : Int) == 32) with
                        | true =>
                          have E32 := hid ((byte_eq x 32).symm.trans h32)
                          have H2 := hid (show bad2 s.data.toList k = true by unfold bad2; rw [HD.out, E35.out, HK.out, HXX.out, E32.out]; rfl)
                          have HF := hid (HX.out (by rw [HB.out]; rw [H2.out]; simp))
                          go_wp2
                          go_ret
                          exact ⟨by rw [show mayR s.data.toList flow = false from (by unfold mayR; rw [HF.out]; simp)]; rfl, hbr⟩
                        | false =>
                          have E32 := hid ((byte_eq x 32).symm.trans h32)
                          have H2 := hid (show bad2 s.data.toList k = false by unfold bad2; rw [HD.out, E35.out, HK.out, HXX.out, E32.out]; rfl)
                          cases flow with
                          | false =>
                            have HI' := hid (show okR s.data.toList false (k + 1) = true by rw [HS.out, HI.out, HB.out, H1.out, H2.out]; rfl)
                            go_wp2
                            go_roundw
                            case rel => exact ⟨k + 1, by omega, by go_num, hbr, HI'⟩
                            case measure => simp [intOf]; omega
                          | true =>
                            have hA := Among_same d ⟨flowL.toArray⟩ wr (by decide)
                            cases ha : amongB flowL d with
                            | true =>
                              have HF := hid (HX.out (by rw [HB.out, ha]; simp))
                              rw [show amongB (⟨flowL.toArray⟩ : ByteArray).data.toList d = true from ha] at hA
                              go_wp2_with fail
                              refine hA.mono ?_
                              rintro e w2 ⟨rfl, rfl⟩
                              go_wp2
                              go_ret
                              exact ⟨by rw [show mayR s.data.toList true = false from (by unfold mayR; rw [HF.out]; simp)]; rfl, hbr⟩
                            | false =>
                              have HI' := hid (show okR s.data.toList true (k + 1) = true by rw [HS.out, HI.out, HB.out, H1.out, H2.out, ha]; rfl)
                              rw [show amongB (⟨flowL.toArray⟩ : ByteArray).data.toList d = false from ha] at hA
                              go_wp2_with fail
                              refine hA.mono ?_
                              rintro e w2 ⟨rfl, rfl⟩
                              go_wp2
                              go_roundw
                              case rel => exact ⟨k + 1, by omega, by go_num, hbr, HI'⟩
                              case measure => simp [intOf]; omega
                    | false =>
                      have E35 := hid ((byte_eq d 35).symm.trans h35)
                      have H2 := hid (show bad2 s.data.toList k = false by unfold bad2; rw [HD.out, E35.out]; rfl)
                      cases flow with
                      | false =>
                        have HI' := hid (show okR s.data.toList false (k + 1) = true by rw [HS.out, HI.out, HB.out, H1.out, H2.out]; rfl)
                        go_wp2
                        go_roundw
                        case rel => exact ⟨k + 1, by omega, by go_num, hbr, HI'⟩
                        case measure => simp [intOf]; omega
                      | true =>
                        have hA := Among_same d ⟨flowL.toArray⟩ wr (by decide)
                        cases ha : amongB flowL d with
                        | true =>
                          have HF := hid (HX.out (by rw [HB.out, ha]; simp))
                          rw [show amongB (⟨flowL.toArray⟩ : ByteArray).data.toList d = true from ha] at hA
                          go_wp2_with fail
                          refine hA.mono ?_
                          rintro e w2 ⟨rfl, rfl⟩
                          go_wp2
                          go_ret
                          exact ⟨by rw [show mayR s.data.toList true = false from (by unfold mayR; rw [HF.out]; simp)]; rfl, hbr⟩
                        | false =>
                          have HI' := hid (show okR s.data.toList true (k + 1) = true by rw [HS.out, HI.out, HB.out, H1.out, H2.out, ha]; rfl)
                          rw [show amongB (⟨flowL.toArray⟩ : ByteArray).data.toList d = false from ha] at hA
                          go_wp2_with fail
                          refine hA.mono ?_
                          rintro e w2 ⟨rfl, rfl⟩
                          go_wp2
                          go_roundw
                          case rel => exact ⟨k + 1, by omega, by go_num, hbr, HI'⟩
                          case measure => simp [intOf]; omega
                · have hge : (s.size : Int) ≤ (k : Int) := by omega
                  have HF := hid (show okR s.data.toList flow s.data.toList.length = true by rw [← Lib.size_eq, show s.size = k by omega]; exact HI.out)
                  go_wp2
                  go_ret
                  exact ⟨by rw [show mayR s.data.toList flow = true from (by unfold mayR; rw [HH.out, HDA.out, HF.out]; rfl)]; rfl, hbr⟩
            | true =>
              have HA2 := hid hd1
              by_cases h1 : s.size = 1
              · have h1i : (s.size : Int) = 1 := by omega
                have HDA := hid (show dashR s.data.toList = true by rw [HDD.out, hd1, ← Lib.size_eq, h1]; rfl)
                clear hd1
                have H1 := hid h1; clear h1
                go_enter Tryz.func166, Tryz.ntmps166
                go_wp2_with fail
                refine hPl.mono ?_
                clear hPl
                rintro e w1 ⟨rfl, hb⟩
                have hA := Among_same c ⟨barredL.toArray⟩ w1 (by decide)
                rw [show amongB (⟨barredL.toArray⟩ : ByteArray).data.toList c = false from HAA.out] at hA
                go_wp2_with fail
                refine hA.mono ?_
                clear hA
                rintro e w2 ⟨rfl, rfl⟩
                have hA := Among_same c ⟨#[45, 63, 58]⟩ w2 (by decide)
                rw [show amongB (⟨#[45, 63, 58]⟩ : ByteArray).data.toList c = true from HA2.out] at hA
                go_wp2_with fail
                refine hA.mono ?_
                clear hA
                rintro e w3 ⟨rfl, rfl⟩
                go_wp2
                go_ret
                exact ⟨by rw [show mayR s.data.toList flow = false from (by unfold mayR; rw [HH.out, HDA.out]; rfl)]; rfl, hb⟩
              · have h1i : ((s.size : Int) == 1) = false := by simp; omega
                have h1j : (1 : Int) < (s.size : Int) := by omega
                obtain ⟨y, hy⟩ : ∃ y, s[1]'(by omega) = y := ⟨_, rfl⟩
                have HY := hid ((getD_byte s 1 (by omega)).trans hy)
                have hyb : (y.toNat : Int) < 256 := by have := y.toNat_lt; omega
                have HL1 := hid (show (s.data.toList.length == 1) = false by rw [← Lib.size_eq]; simpa using h1)
                cases hy32 : ((y.toNat : Int) == 32) with
                | true =>
                  have HDA := hid (show dashR s.data.toList = true by rw [HDD.out, hd1, HY.out, show (y == 32) = true from (byte_eq y 32).symm.trans hy32]; simp)
                  clear hd1
                  go_enter Tryz.func166, Tryz.ntmps166
                  go_wp2_with fail
                  refine hPl.mono ?_
                  clear hPl
                  rintro e w1 ⟨rfl, hb⟩
                  have hA := Among_same c ⟨barredL.toArray⟩ w1 (by decide)
                  rw [show amongB (⟨barredL.toArray⟩ : ByteArray).data.toList c = false from HAA.out] at hA
                  go_wp2_with fail
                  refine hA.mono ?_
                  clear hA
                  rintro e w2 ⟨rfl, rfl⟩
                  have hA := Among_same c ⟨#[45, 63, 58]⟩ w2 (by decide)
                  rw [show amongB (⟨#[45, 63, 58]⟩ : ByteArray).data.toList c = true from HA2.out] at hA
                  go_wp2_with fail
                  refine hA.mono ?_
                  clear hA
                  rintro e w3 ⟨rfl, rfl⟩
                  go_wp2
                  go_ret
                  exact ⟨by rw [show mayR s.data.toList flow = false from (by unfold mayR; rw [HH.out, HDA.out]; rfl)]; rfl, hb⟩
                | false =>
                  have HDA := hid (show dashR s.data.toList = false by rw [HDD.out, hd1, HY.out, HL1.out, show (y == 32) = false from (byte_eq y 32).symm.trans hy32]; rfl)
                  clear hd1
                  go_enter Tryz.func166, Tryz.ntmps166
                  go_wp2_with fail
                  refine hPl.mono ?_
                  clear hPl
                  rintro e w1 ⟨rfl, hb⟩
                  have hA := Among_same c ⟨barredL.toArray⟩ w1 (by decide)
                  rw [show amongB (⟨barredL.toArray⟩ : ByteArray).data.toList c = false from HAA.out] at hA
                  go_wp2_with fail
                  refine hA.mono ?_
                  clear hA
                  rintro e w2 ⟨rfl, rfl⟩
                  have hA := Among_same c ⟨#[45, 63, 58]⟩ w2 (by decide)
                  rw [show amongB (⟨#[45, 63, 58]⟩ : ByteArray).data.toList c = true from HA2.out] at hA
                  go_wp2_with fail
                  refine hA.mono ?_
                  clear hA
                  rintro e w3 ⟨rfl, rfl⟩
                  go_wp2
                  go_loopw [5] (fun i wr => ∃ k : Nat, k ≤ s.size ∧ i = .int .i64 k ∧ Below w.heap.size w wr ∧ Hid (okR s.data.toList flow k = true)) (fun i _ => s.size - (intOf i).toNat)
                  case atStart => exact ⟨0, by omega, rfl, by assumption, hid rfl⟩
                  case round =>
                    obtain ⟨k, hk, rfl, hbr, HI⟩ := hrel
                    by_cases hlt : k < s.size
                    · have hlti : (k : Int) < (s.size : Int) := by omega
                      obtain ⟨d, hd⟩ : ∃ d, s[k]'hlt = d := ⟨_, rfl⟩
                      have HD := hid ((getD_byte s k hlt).trans hd)
                      have HS := hid (okR_succ s.data.toList flow k)
                      have HX := hid (fun h => okR_bad (l := s.data.toList) (flow := flow) (k := k) (n := s.data.toList.length) (by rw [← Lib.size_eq]; exact hlt) h)
                      have HB : Hid (badR s.data.toList flow k = (bad1 s.data.toList k || bad2 s.data.toList k || (flow && amongB flowL d))) := hid (by unfold badR; rw [HD.out])
                      have hdb : (d.toNat : Int) < 256 := by have := d.toNat_lt; omega
                      cases h58 : ((d.toNat : Int) == 58) with
                      | true =>
                        have E58 := hid ((byte_eq d 58).symm.trans h58)
                        have h35 : ((d.toNat : Int) == 35) = false := by simp at h58 ⊢; omega
                        have E35 := hid ((byte_eq d 35).symm.trans h35)
                        have H2 := hid (show bad2 s.data.toList k = false by unfold bad2; rw [HD.out, E35.out]; rfl)
                        by_cases hl : k + 1 = s.size
                        · have hli : ((k : Int) == (s.size : Int) - 1) = true := by simp; omega
                          have H1 := hid (show bad1 s.data.toList k = true by unfold bad1; rw [HD.out, E58.out, ← Lib.size_eq, hl]; simp)
                          have HF := hid (HX.out (by rw [HB.out]; rw [H1.out]; simp))
                          go_wp2
                          go_ret
                          exact ⟨by rw [show mayR s.data.toList flow = false from (by unfold mayR; rw [HF.out]; simp)]; rfl, hbr⟩
                        · have hli : ((k : Int) == (s.size : Int) - 1) = false := by simp; omega
                          have hl2 : (k : Int) + 1 < (s.size : Int) := by omega
                          obtain ⟨x, hx⟩ : ∃ x, s[k + 1]'(by omega) = x := ⟨_, rfl⟩
                          have HXX := hid ((getD_byte s (k + 1) (by omega)).trans hx)
                          have HN := hid (show (k + 1 == s.data.toList.length) = false by rw [← Lib.size_eq]; simpa using hl)
                          have hxb : (x.toNat : Int) < 256 := by have := x.toNat_lt; omega
                          cases h32 : ((x.toNat : Int) == 32) with
                          | true =>
                            have E32 := hid ((byte_eq x 32).symm.trans h32)
                            have H1 := hid (show bad1 s.data.toList k = true by unfold bad1; rw [HD.out, E58.out, HXX.out, E32.out]; simp)
                            have HF := hid (HX.out (by rw [HB.out]; rw [H1.out]; simp))
                            go_wp2
                            go_ret
                            exact ⟨by rw [show mayR s.data.toList flow = false from (by unfold mayR; rw [HF.out]; simp)]; rfl, hbr⟩
                          | false =>
                            have E32 := hid ((byte_eq x 32).symm.trans h32)
                            have H1 := hid (show bad1 s.data.toList k = false by unfold bad1; rw [HD.out, E58.out, HXX.out, E32.out, HN.out]; simp)
                            cases flow with
                            | false =>
                              have HI' := hid (show okR s.data.toList false (k + 1) = true by rw [HS.out, HI.out, HB.out, H1.out, H2.out]; rfl)
                              go_wp2
                              go_roundw
                              case rel => exact ⟨k + 1, by omega, by go_num, hbr, HI'⟩
                              case measure => simp [intOf]; omega
                            | true =>
                              have hA := Among_same d ⟨flowL.toArray⟩ wr (by decide)
                              cases ha : amongB flowL d with
                              | true =>
                                have HF := hid (HX.out (by rw [HB.out, ha]; simp))
                                rw [show amongB (⟨flowL.toArray⟩ : ByteArray).data.toList d = true from ha] at hA
                                go_wp2_with fail
                                refine hA.mono ?_
                                rintro e w2 ⟨rfl, rfl⟩
                                go_wp2
                                go_ret
                                exact ⟨by rw [show mayR s.data.toList true = false from (by unfold mayR; rw [HF.out]; simp)]; rfl, hbr⟩
                              | false =>
                                have HI' := hid (show okR s.data.toList true (k + 1) = true by rw [HS.out, HI.out, HB.out, H1.out, H2.out, ha]; rfl)
                                rw [show amongB (⟨flowL.toArray⟩ : ByteArray).data.toList d = false from ha] at hA
                                go_wp2_with fail
                                refine hA.mono ?_
                                rintro e w2 ⟨rfl, rfl⟩
                                go_wp2
                                go_roundw
                                case rel => exact ⟨k + 1, by omega, by go_num, hbr, HI'⟩
                                case measure => simp [intOf]; omega
                      | false =>
                        have E58 := hid ((byte_eq d 58).symm.trans h58)
                        have H1 := hid (show bad1 s.data.toList k = false by unfold bad1; rw [HD.out, E58.out]; rfl)
                        cases h35 : ((d.toNat : Int) == 35) with
                        | true =>
                          have E35 := hid ((byte_eq d 35).symm.trans h35)
                          by_cases hk0 : k = 0
                          · have hk0i : (k : Int) = 0 := by omega
                            have hk0j : ¬ (0 : Int) < (k : Int) := by omega
                            have H2 := hid (show bad2 s.data.toList k = false by unfold bad2; rw [hk0]; simp)
                            have HK := hid hk0i; clear hk0 hk0i
                            cases flow with
                            | false =>
                              have HI' := hid (show okR s.data.toList false (k + 1) = true by rw [HS.out, HI.out, HB.out, H1.out, H2.out]; rfl)
                              go_wp2
                              go_roundw
                              case rel => exact ⟨k + 1, by omega, by go_num, hbr, HI'⟩
                              case measure => simp [intOf]; omega
                            | true =>
                              have hA := Among_same d ⟨flowL.toArray⟩ wr (by decide)
                              cases ha : amongB flowL d with
                              | true =>
                                have HF := hid (HX.out (by rw [HB.out, ha]; simp))
                                rw [show amongB (⟨flowL.toArray⟩ : ByteArray).data.toList d = true from ha] at hA
                                go_wp2_with fail
                                refine hA.mono ?_
                                rintro e w2 ⟨rfl, rfl⟩
                                go_wp2
                                go_ret
                                exact ⟨by rw [show mayR s.data.toList true = false from (by unfold mayR; rw [HF.out]; simp)]; rfl, hbr⟩
                              | false =>
                                have HI' := hid (show okR s.data.toList true (k + 1) = true by rw [HS.out, HI.out, HB.out, H1.out, H2.out, ha]; rfl)
                                rw [show amongB (⟨flowL.toArray⟩ : ByteArray).data.toList d = false from ha] at hA
                                go_wp2_with fail
                                refine hA.mono ?_
                                rintro e w2 ⟨rfl, rfl⟩
                                go_wp2
                                go_roundw
                                case rel => exact ⟨k + 1, by omega, by go_num, hbr, HI'⟩
                                case measure => simp [intOf]; omega
                          · have hj : (k : Int) - 1 < (s.size : Int) := by omega
                            have hk0j : (0 : Int) < (k : Int) := by omega
                            have hj0 : 0 ≤ (k : Int) - 1 := by omega
                            have hjt : ((k : Int) - 1).toNat = k - 1 := by omega
                            obtain ⟨x, hx⟩ : ∃ x, s[k - 1]'(by omega) = x := ⟨_, rfl⟩
                            have HXX := hid ((getD_byte s (k - 1) (by omega)).trans hx)
                            have hxb : (x.toNat : Int) < 256 := by have := x.toNat_lt; omega
                            have HK := hid (show decide (0 < k) = true by simp; omega)
                            cases h32 : ((x.toNat : Int) == 32) with
                            | true =>
                              have E32 := hid ((byte_eq x 32).symm.trans h32)
                              have H2 := hid (show bad2 s.data.toList k = true by unfold bad2; rw [HD.out, E35.out, HK.out, HXX.out, E32.out]; rfl)
                              have HF := hid (HX.out (by rw [HB.out]; rw [H2.out]; simp))
                              go_wp2
                              go_ret
                              exact ⟨by rw [show mayR s.data.toList flow = false from (by unfold mayR; rw [HF.out]; simp)]; rfl, hbr⟩
                            | false =>
                              have E32 := hid ((byte_eq x 32).symm.trans h32)
                              have H2 := hid (show bad2 s.data.toList k = false by unfold bad2; rw [HD.out, E35.out, HK.out, HXX.out, E32.out]; rfl)
                              cases flow with
                              | false =>
                                have HI' := hid (show okR s.data.toList false (k + 1) = true by rw [HS.out, HI.out, HB.out, H1.out, H2.out]; rfl)
                                go_wp2
                                go_roundw
                                case rel => exact ⟨k + 1, by omega, by go_num, hbr, HI'⟩
                                case measure => simp [intOf]; omega
                              | true =>
                                have hA := Among_same d ⟨flowL.toArray⟩ wr (by decide)
                                cases ha : amongB flowL d with
                                | true =>
                                  have HF := hid (HX.out (by rw [HB.out, ha]; simp))
                                  rw [show amongB (⟨flowL.toArray⟩ : ByteArray).data.toList d = true from ha] at hA
                                  go_wp2_with fail
                                  refine hA.mono ?_
                                  rintro e w2 ⟨rfl, rfl⟩
                                  go_wp2
                                  go_ret
                                  exact ⟨by rw [show mayR s.data.toList true = false from (by unfold mayR; rw [HF.out]; simp)]; rfl, hbr⟩
                                | false =>
                                  have HI' := hid (show okR s.data.toList true (k + 1) = true by rw [HS.out, HI.out, HB.out, H1.out, H2.out, ha]; rfl)
                                  rw [show amongB (⟨flowL.toArray⟩ : ByteArray).data.toList d = false from ha] at hA
                                  go_wp2_with fail
                                  refine hA.mono ?_
                                  rintro e w2 ⟨rfl, rfl⟩
                                  go_wp2
                                  go_roundw
                                  case rel => exact ⟨k + 1, by omega, by go_num, hbr, HI'⟩
                                  case measure => simp [intOf]; omega
                        | false =>
                          have E35 := hid ((byte_eq d 35).symm.trans h35)
                          have H2 := hid (show bad2 s.data.toList k = false by unfold bad2; rw [HD.out, E35.out]; rfl)
                          cases flow with
                          | false =>
                            have HI' := hid (show okR s.data.toList false (k + 1) = true by rw [HS.out, HI.out, HB.out, H1.out, H2.out]; rfl)
                            go_wp2
                            go_roundw
                            case rel => exact ⟨k + 1, by omega, by go_num, hbr, HI'⟩
                            case measure => simp [intOf]; omega
                          | true =>
                            have hA := Among_same d ⟨flowL.toArray⟩ wr (by decide)
                            cases ha : amongB flowL d with
                            | true =>
                              have HF := hid (HX.out (by rw [HB.out, ha]; simp))
                              rw [show amongB (⟨flowL.toArray⟩ : ByteArray).data.toList d = true from ha] at hA
                              go_wp2_with fail
                              refine hA.mono ?_
                              rintro e w2 ⟨rfl, rfl⟩
                              go_wp2
                              go_ret
                              exact ⟨by rw [show mayR s.data.toList true = false from (by unfold mayR; rw [HF.out]; simp)]; rfl, hbr⟩
                            | false =>
                              have HI' := hid (show okR s.data.toList true (k + 1) = true by rw [HS.out, HI.out, HB.out, H1.out, H2.out, ha]; rfl)
                              rw [show amongB (⟨flowL.toArray⟩ : ByteArray).data.toList d = false from ha] at hA
                              go_wp2_with fail
                              refine hA.mono ?_
                              rintro e w2 ⟨rfl, rfl⟩
                              go_wp2
                              go_roundw
                              case rel => exact ⟨k + 1, by omega, by go_num, hbr, HI'⟩
                              case measure => simp [intOf]; omega
                    · have hge : (s.size : Int) ≤ (k : Int) := by omega
                      have HF := hid (show okR s.data.toList flow s.data.toList.length = true by rw [← Lib.size_eq, show s.size = k by omega]; exact HI.out)
                      go_wp2
                      go_ret
                      exact ⟨by rw [show mayR s.data.toList flow = true from (by unfold mayR; rw [HH.out, HDA.out, HF.out]; rfl)]; rfl, hbr⟩
  · have he := isEmpty_true h0
    have HE := hid (show s.data.toList.isEmpty = true by rw [← Lib.toList_data]; exact he)
    go_enter Tryz.func166, Tryz.ntmps166
    go_wp2
    go_ret
    exact ⟨by rw [show mayR s.data.toList flow = false from (by unfold mayR headR; rw [HE.out]; rfl)]; rfl, Below.refl _ _⟩
end Go.Proofs.YtiinnnbpbnojgaaGreatDoor
