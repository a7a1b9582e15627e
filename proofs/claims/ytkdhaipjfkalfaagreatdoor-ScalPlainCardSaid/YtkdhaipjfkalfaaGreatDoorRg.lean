import Derived.Test.YtkdhaipjfkalfaaGreatDoorRe
import Derived.Test.YtkdhaipjfkalfaaGreatDoorWl
import Derived.Deep.CutRange
namespace Go.Proofs.YtkdhaipjfkalfaaGreatDoor
open Go Go.RowKit Go.Lib
set_option linter.unusedSimpArgs false

def okN (c : UInt8) : Bool := isDigB c || amongB [46, 101, 69, 43, 45, 95] c
def tailR (l : List UInt8) : Bool := !l.isEmpty && (isDigB (l.getD 0 0) && l.all okN)
def test1 (l : List UInt8) : Bool := !l.isEmpty && amongB [43, 45] (l.getD 0 0)
def test2 (l : List UInt8) : Bool := !l.isEmpty && l.getD 0 0 == 46
def strip1 (l : List UInt8) : List UInt8 := if test1 l then l.tail else l
def strip2 (l : List UInt8) : List UInt8 := if test2 l then l.tail else l
def looksR (l : List UInt8) : Bool := tailR (strip2 (strip1 l))

theorem tail_list (s : ByteArray) (h : 0 < s.size) : (s.extract 1 s.size).data.toList = s.data.toList.tail := by
  have h1 := head_rest s h
  have h2 : s.data.toList.tail = (s[0]'h :: (s.extract 1 s.size).data.toList).tail := congrArg List.tail h1
  rw [h2]; rfl
theorem tail_size (s : ByteArray) (h : 0 < s.size) : (s.extract 1 s.size).size + 1 = s.size := by
  rw [Lib.size_eq, tail_list s h, List.length_tail, ← Lib.size_eq]; omega
theorem dlist_false {s : ByteArray} (h : 0 < s.size) : s.data.toList.isEmpty = false := by rw [← Lib.toList_data]; exact isEmpty_false h
theorem dlist_true {s : ByteArray} (h : ¬ 0 < s.size) : s.data.toList.isEmpty = true := by rw [← Lib.toList_data]; exact isEmpty_true h
theorem allN_take {p : UInt8 → Bool} {l : List UInt8} {k : Nat} (h : k < l.length) : (l.take (k + 1)).all p = ((l.take k).all p && p (l.getD k 0)) := by
  rw [List.take_succ_eq_append_getElem h, List.all_append, List.getD, List.getElem?_eq_getElem h]
  simp
theorem allN_false {p : UInt8 → Bool} {l : List UInt8} {k : Nat} (h : k < l.length) (hz : p (l.getD k 0) = false) : l.all p = false := by
  rw [← Bool.not_eq_true, List.all_eq_true]
  intro h2
  have := h2 _ (List.getElem_mem h)
  rw [List.getD, List.getElem?_eq_getElem h] at hz
  simp only [Option.getD_some] at hz
  rw [hz] at this; cases this

set_option maxRecDepth 100000 in
set_option maxHeartbeats 2000000 in
theorem looks_same (s : ByteArray) (w : World) (hs : s.size ≤ 1000000) :
    Calls Tryz.prog 55 #[.string s] w fun e w' => e = .returned (.bool (looksR s.data.toList)) ∧ w' = w := by
  go_enter Tryz.func55, Tryz.ntmps55
  go_upto_region 1 with fail
  go_cut [10] from 4 (fun b wx => wx = w ∧ ∃ bb, b = .bool bb ∧ Hid (test1 s.data.toList = bb) ∧ (bb = true → 0 < s.size))
  case first =>
    by_cases h0 : 0 < s.size
    · have he := isEmpty_false h0
      have h0i : (0 : Int) < (s.size : Int) := by omega
      obtain ⟨c, hc⟩ : ∃ c, s[0]'h0 = c := ⟨_, rfl⟩
      have HC := hid ((getD_byte s 0 h0).trans hc)
      have hcb : (c.toNat : Int) < 256 := by have := c.toNat_lt; omega
      go_wp2_with fail
      refine (Among_same c ⟨#[43, 45]⟩ w (by decide)).mono ?_
      rintro e w1 ⟨rfl, hw⟩
      subst w1
      go_wp2
      go_meet
      case rel => exact ⟨rfl, _, rfl, hid (by unfold test1; rw [HC.out, dlist_false h0]; rfl), fun _ => h0⟩
    · have he := isEmpty_true h0
      go_wp2
      go_meet
      case rel => exact ⟨rfl, _, rfl, hid (by unfold test1; rw [dlist_true h0]; rfl), fun h => by cases h⟩
  case rest =>
    obtain ⟨rfl, bb, rfl, HB, hpos⟩ := hcut
    go_upto_if 10 with fail
    go_cut [0] from 4 (fun v wx => wx = wc ∧ ∃ T : ByteArray, v = .string T ∧ T.size ≤ 1000000 ∧ Hid (strip1 s.data.toList = T.data.toList))
    case first =>
      cases bb with
      | true =>
        have h0 := hpos rfl
        have h1i : (1 : Int) ≤ (s.size : Int) := by omega
        have HL := hid (tail_list s h0)
        have hz := tail_size s h0
        go_wp2
        go_meet
        case rel => exact ⟨rfl, _, rfl, by omega, hid (by unfold strip1; rw [HB.out, HL.out]; rfl)⟩
      | false =>
        go_wp2
        go_meet
        case rel => exact ⟨rfl, s, rfl, hs, hid (by unfold strip1; rw [HB.out]; rfl)⟩
    case rest =>
    obtain ⟨rfl, T, rfl, hTs, HT⟩ := hcut
    clear HB hpos
    go_upto_region 3 with fail
    go_cut [19] from 4 (fun b wx => wx = wc ∧ ∃ bb, b = .bool bb ∧ Hid (test2 T.data.toList = bb) ∧ (bb = true → 0 < T.size))
    case first =>
      by_cases h0 : 0 < T.size
      · have he := isEmpty_false h0
        have h0i : (0 : Int) < (T.size : Int) := by omega
        obtain ⟨c, hc⟩ : ∃ c, T[0]'h0 = c := ⟨_, rfl⟩
        have HC := hid ((getD_byte T 0 h0).trans hc)
        have hcb : (c.toNat : Int) < 256 := by have := c.toNat_lt; omega
        have HE := hid (byte_eq c 46)
        go_wp2
        go_meet
        case rel => exact ⟨rfl, _, rfl, hid (by unfold test2; rw [HC.out, dlist_false h0]; exact HE.out.symm), fun _ => h0⟩
      · have he := isEmpty_true h0
        go_wp2
        go_meet
        case rel => exact ⟨rfl, _, rfl, hid (by unfold test2; rw [dlist_true h0]; rfl), fun h => by cases h⟩
    case rest =>
    obtain ⟨rfl, bb, rfl, HB, hpos⟩ := hcut
    go_upto_if 19 with fail
    go_cut [0] from 4 (fun v wx => wx = wc ∧ ∃ U : ByteArray, v = .string U ∧ U.size ≤ 1000000 ∧ Hid (looksR s.data.toList = tailR U.data.toList))
    case first =>
      cases bb with
      | true =>
        have h0 := hpos rfl
        have h1i : (1 : Int) ≤ (T.size : Int) := by omega
        have HL := hid (tail_list T h0)
        have hz := tail_size T h0
        go_wp2
        go_meet
        case rel => exact ⟨rfl, _, rfl, by omega, hid (by unfold looksR; rw [HT.out]; unfold strip2; rw [HB.out, HL.out]; rfl)⟩
      | false =>
        go_wp2
        go_meet
        case rel => exact ⟨rfl, T, rfl, hTs, hid (by unfold looksR; rw [HT.out]; unfold strip2; rw [HB.out]; rfl)⟩
    case rest =>
    obtain ⟨rfl, U, rfl, hUs, HU⟩ := hcut
    clear HB hpos hTs HT
    by_cases h0 : 0 < U.size
    · have he := isEmpty_false h0
      have h0i : (0 : Int) < (U.size : Int) := by omega
      obtain ⟨c, hc⟩ : ∃ c, U[0]'h0 = c := ⟨_, rfl⟩
      have HC := hid ((getD_byte U 0 h0).trans hc)
      have hcb : (c.toNat : Int) < 256 := by have := c.toNat_lt; omega
      have hDg := Digit_same c wc
      cases hdg : isDigB c with
      | false =>
        have HF := hid (show looksR s.data.toList = false by rw [HU.out]; unfold tailR; rw [HC.out, hdg]; simp)
        rw [hdg] at hDg
        clear hdg
        go_wp2_with fail
        refine hDg.mono ?_
        rintro e w1 ⟨rfl, hw⟩
        subst w1
        go_wp2
        go_ret
        exact ⟨by rw [HF.out]; rfl, rfl⟩
      | true =>
        have HR : Hid (looksR s.data.toList = U.data.toList.all okN) := hid (by rw [HU.out]; unfold tailR; rw [HC.out, hdg, dlist_false h0]; rfl)
        rw [hdg] at hDg
        clear hdg HC
        go_wp2_with fail
        refine hDg.mono ?_
        clear hDg
        rintro e w1 ⟨rfl, hw⟩
        subst w1
        go_wp2
        clear hc
        go_loop [3] (fun i => ∃ k : Nat, k ≤ U.size ∧ i = .int .i64 k ∧ Hid ((U.data.toList.take k).all okN = true)) (fun i => U.size - (intOf i).toNat)
        case atStart => exact ⟨0, by omega, rfl, hid rfl⟩
        case round =>
          obtain ⟨k, hk, rfl, HI⟩ := hrel
          by_cases hlt : k < U.size
          · have hlti : (k : Int) < (U.size : Int) := by omega
            obtain ⟨d, hd⟩ : ∃ d, U[k]'hlt = d := ⟨_, rfl⟩
            have HD := hid ((getD_byte U k hlt).trans hd)
            have hdb : (d.toNat : Int) < 256 := by have := d.toNat_lt; omega
            have HS := hid (allN_take (p := okN) (l := U.data.toList) (k := k) (by rw [← Lib.size_eq]; exact hlt))
            have HX := hid (fun h => allN_false (p := okN) (l := U.data.toList) (k := k) (by rw [← Lib.size_eq]; exact hlt) h)
            have hDd := Digit_same d wc
            cases hdd : isDigB d with
            | true =>
              rw [hdd] at hDd
              have HI' := hid (show (U.data.toList.take (k + 1)).all okN = true by rw [HS.out, HI.out, HD.out]; unfold okN; rw [hdd]; rfl)
              clear hdd
              go_wp2_with fail
              refine hDd.mono ?_
              clear hDd
              rintro e w2 ⟨rfl, hw⟩
              subst w2
              go_wp2
              go_round
              case rel => exact ⟨k + 1, by omega, by go_num, HI'⟩
              case measure => simp [intOf]; omega
            | false =>
              rw [hdd] at hDd
              have hAm := Among_same d ⟨#[46, 101, 69, 43, 45, 95]⟩ wc (by decide)
              cases ham : amongB [46, 101, 69, 43, 45, 95] d with
              | true =>
                rw [show amongB (⟨#[46, 101, 69, 43, 45, 95]⟩ : ByteArray).data.toList d = true from ham] at hAm
                have HI' := hid (show (U.data.toList.take (k + 1)).all okN = true by rw [HS.out, HI.out, HD.out]; unfold okN; rw [ham]; simp)
                clear hdd ham
                go_wp2_with fail
                refine hDd.mono ?_
                clear hDd
                rintro e w2 ⟨rfl, hw⟩
                subst w2
                go_wp2_with fail
                refine hAm.mono ?_
                clear hAm
                rintro e w3 ⟨rfl, hw⟩
                subst w3
                go_wp2
                go_round
                case rel => exact ⟨k + 1, by omega, by go_num, HI'⟩
                case measure => simp [intOf]; omega
              | false =>
                rw [show amongB (⟨#[46, 101, 69, 43, 45, 95]⟩ : ByteArray).data.toList d = false from ham] at hAm
                have HF := hid (show looksR s.data.toList = false by rw [HR.out]; exact HX.out (by rw [HD.out]; unfold okN; rw [hdd, ham]; rfl))
                clear hdd ham
                go_wp2_with fail
                refine hDd.mono ?_
                clear hDd
                rintro e w2 ⟨rfl, hw⟩
                subst w2
                go_wp2_with fail
                refine hAm.mono ?_
                clear hAm
                rintro e w3 ⟨rfl, hw⟩
                subst w3
                go_wp2
                go_ret
                exact ⟨by rw [HF.out]; rfl, rfl⟩
          · have hge : (U.size : Int) ≤ (k : Int) := by omega
            have HF := hid (show looksR s.data.toList = true by
              rw [HR.out]
              have h := HI.out
              rwa [List.take_of_length_le (by rw [← Lib.size_eq]; omega)] at h)
            go_wp2
            go_ret
            exact ⟨by rw [HF.out]; rfl, rfl⟩
    · have he := isEmpty_true h0
      have HF := hid (show looksR s.data.toList = false by rw [HU.out]; unfold tailR; rw [dlist_true h0]; rfl)
      go_wp2
      go_ret
      exact ⟨by rw [HF.out]; rfl, rfl⟩
end Go.Proofs.YtkdhaipjfkalfaaGreatDoor

namespace Go.Proofs.YtkdhaipjfkalfaaGreatDoor
open Go Go.RowKit Go.Lib
set_option linter.unusedSimpArgs false

def valD (l : List UInt8) : Int := l.foldl (fun n c => 10 * n + ((c.toNat : Int) - 48)) 0
theorem valD_take {l : List UInt8} {k : Nat} (h : k < l.length) : valD (l.take (k + 1)) = 10 * valD (l.take k) + (((l.getD k 0).toNat : Int) - 48) := by
  unfold valD
  rw [List.take_succ_eq_append_getElem h, List.foldl_append, List.getD, List.getElem?_eq_getElem h]
  rfl
theorem valD_snoc (l : List UInt8) (c : UInt8) : valD (l ++ [c]) = 10 * valD l + ((c.toNat : Int) - 48) := by
  unfold valD; rw [List.foldl_append]; rfl
theorem digB {c : UInt8} (h : isDigB c = true) : 48 ≤ (c.toNat : Int) ∧ (c.toNat : Int) ≤ 57 := by
  unfold isDigB at h; simp at h; omega
theorem valD_bdk (l : List UInt8) : ∀ k, k ≤ l.length → (l.take k).all isDigB = true → 0 ≤ valD (l.take k) ∧ valD (l.take k) < 10 ^ k
  | 0, _, _ => by simp [valD]
  | k + 1, hk, h => by
    rw [allN_take (by omega), Bool.and_eq_true] at h
    have hi := valD_bdk l k (by omega) h.1
    have hc := digB h.2
    rw [valD_take (by omega), Int.pow_succ]
    omega
theorem valD_bd (l : List UInt8) (h : l.all isDigB = true) : 0 ≤ valD l ∧ valD l < 10 ^ l.length := by
  have := valD_bdk l l.length (Nat.le_refl _) (by rw [List.take_length]; exact h)
  rwa [List.take_length] at this
theorem valD_small {l : List UInt8} {k : Nat} (hk : k ≤ 14) (h : (l.take k).all isDigB = true) : 0 ≤ valD (l.take k) ∧ valD (l.take k) ≤ 100000000000000 := by
  have hb := valD_bd _ h
  have hl : (l.take k).length ≤ 14 := by rw [List.length_take]; omega
  have hp : (10 : Int) ^ (l.take k).length ≤ 10 ^ 14 := by
    have : (10 : Nat) ^ (l.take k).length ≤ 10 ^ 14 := Nat.pow_le_pow_right (by omega) hl
    exact_mod_cast this
  omega
theorem valD_full {l : List UInt8} (hl : l.length ≤ 15) (h : l.all isDigB = true) : 0 ≤ valD l ∧ valD l ≤ 999999999999999 := by
  have hb := valD_bd _ h
  have hp : (10 : Int) ^ l.length ≤ 10 ^ 15 := by
    have : (10 : Nat) ^ l.length ≤ 10 ^ 15 := Nat.pow_le_pow_right (by omega) hl
    exact_mod_cast this
  omega

def belowT (l : List UInt8) : Bool := !l.isEmpty && l.getD 0 0 == 45
def digitsOf (l : List UInt8) : List UInt8 := if belowT l then l.tail else l
def noneT (l : List UInt8) : Bool := (digitsOf l).isEmpty || (decide (15 < (digitsOf l).length) || ((digitsOf l).getD 0 0 == 48 && !(l == [48])))
def numR (l : List UInt8) : Int × Bool :=
  if noneT l then (0, false) else if (digitsOf l).all isDigB then (if belowT l then -(valD (digitsOf l)) else valD (digitsOf l), true) else (0, false)

set_option maxRecDepth 100000 in
set_option maxHeartbeats 2000000 in
theorem number_same (s : ByteArray) (w : World) (hs : s.size ≤ 1000000) :
    Calls Tryz.prog 56 #[.string s] w fun e w' => e = .returned (.tuple #[.int .i64 (numR s.data.toList).1, .bool (numR s.data.toList).2]) ∧ w' = w := by
  go_enter Tryz.func56, Tryz.ntmps56
  go_upto_region 1 with fail
  go_cut [4] from 8 (fun b wx => wx = w ∧ ∃ bb, b = .bool bb ∧ Hid (belowT s.data.toList = bb) ∧ (bb = true → 0 < s.size))
  case first =>
    by_cases h0 : 0 < s.size
    · have he := isEmpty_false h0
      have h0i : (0 : Int) < (s.size : Int) := by omega
      obtain ⟨c, hc⟩ : ∃ c, s[0]'h0 = c := ⟨_, rfl⟩
      have HC := hid ((getD_byte s 0 h0).trans hc)
      have hcb : (c.toNat : Int) < 256 := by have := c.toNat_lt; omega
      have HE := hid (byte_eq c 45)
      go_wp2
      go_meet
      case rel => exact ⟨rfl, _, rfl, hid (by unfold belowT; rw [HC.out, dlist_false h0]; exact HE.out.symm), fun _ => h0⟩
    · have he := isEmpty_true h0
      go_wp2
      go_meet
      case rel => exact ⟨rfl, _, rfl, hid (by unfold belowT; rw [dlist_true h0]; rfl), fun h => by cases h⟩
  case rest =>
  obtain ⟨rfl, bb, rfl, HB, hpos⟩ := hcut
  go_upto_if 16 with fail
  go_cut [5] from 8 (fun v wx => wx = wc ∧ ∃ T : ByteArray, v = .string T ∧ T.size ≤ 1000000 ∧ Hid (digitsOf s.data.toList = T.data.toList))
  case first =>
    cases bb with
    | true =>
      have h0 := hpos rfl
      have h1i : (1 : Int) ≤ (s.size : Int) := by omega
      have HL := hid (tail_list s h0)
      have hz := tail_size s h0
      go_wp2
      go_meet
      case rel => exact ⟨rfl, _, rfl, by omega, hid (by unfold digitsOf; rw [HB.out, HL.out]; rfl)⟩
    | false =>
      go_wp2
      go_meet
      case rel => exact ⟨rfl, s, rfl, hs, hid (by unfold digitsOf; rw [HB.out]; rfl)⟩
  case rest =>
  obtain ⟨rfl, T, rfl, hTs, HT⟩ := hcut
  clear hpos
  go_upto_region 5 with fail
  go_cut [34] from 8 (fun b wx => wx = wc ∧ ∃ cc, b = .bool cc ∧ Hid (noneT s.data.toList = cc))
  case first =>
    have HN : Hid (noneT s.data.toList = (T.data.toList.isEmpty || (decide (15 < T.data.toList.length) || (T.data.toList.getD 0 0 == 48 && !(s.data.toList == [48]))))) := hid (by unfold noneT; rw [HT.out])
    by_cases h0 : 0 < T.size
    · have he := isEmpty_false h0
      have h0i : (0 : Int) < (T.size : Int) := by omega
      by_cases h15 : 15 < T.size
      · have h15i : (15 : Int) < (T.size : Int) := by omega
        go_wp2
        go_meet
        case rel => exact ⟨rfl, true, rfl, hid (by rw [HN.out, ← Lib.size_eq, decide_eq_true h15]; simp)⟩
      · have h15i : ¬ (15 : Int) < (T.size : Int) := by omega
        have HN2 := hid (show noneT s.data.toList = (T.data.toList.getD 0 0 == 48 && !(s.data.toList == [48])) by rw [HN.out, dlist_false h0, ← Lib.size_eq, decide_eq_false h15]; rfl)
        obtain ⟨c, hc⟩ : ∃ c, T[0]'h0 = c := ⟨_, rfl⟩
        have HC := hid ((getD_byte T 0 h0).trans hc)
        have hcb : (c.toNat : Int) < 256 := by have := c.toNat_lt; omega
        have HE := hid (byte_eq c 48)
        cases h48 : ((c.toNat : Int) == 48) with
        | true =>
          have HX := hid (HE.out.symm.trans h48)
          go_wp2
          go_meet
          case rel => exact ⟨rfl, _, rfl, hid (by rw [HN2.out, HC.out, show (c == 48) = true from HX.out, ← Lib.toList_data]; rfl)⟩
        | false =>
          have HX := hid (HE.out.symm.trans h48)
          go_wp2
          go_meet
          case rel => exact ⟨rfl, false, rfl, hid (by rw [HN2.out, HC.out, show (c == 48) = false from HX.out]; rfl)⟩
    · have he := isEmpty_true h0
      go_wp2
      go_meet
      case rel => exact ⟨rfl, true, rfl, hid (by rw [HN.out, dlist_true h0]; rfl)⟩
  case rest =>
  obtain ⟨rfl, cc, rfl, HN⟩ := hcut
  cases cc with
  | true =>
    go_wp2
    refine bodyPost_ret (v := .tuple #[.int .i64 0, .bool false]) (by simp [results, Tryz.results56, go_sem]) rfl ⟨?_, rfl⟩
    rw [show numR s.data.toList = (0, false) from (by unfold numR; rw [HN.out]; rfl)]
  | false =>
    have hT15 : T.size ≤ 15 := by
      have h := HN.out
      unfold noneT at h
      rw [HT.out, ← Lib.size_eq] at h
      by_cases h15 : 15 < T.size
      · rw [decide_eq_true h15] at h; simp at h
      · omega
    have HR : Hid (numR s.data.toList = if T.data.toList.all isDigB then (if bb then -(valD T.data.toList) else valD T.data.toList, true) else (0, false)) := hid (by unfold numR; rw [HN.out, HT.out, HB.out]; rfl)
    clear HN HB HT hTs
    go_wp2
    go_loop [6, 7] (fun n i => ∃ k : Nat, k ≤ T.size ∧ i = .int .i64 k ∧ n = .int .i64 (valD (T.data.toList.take k)) ∧ Hid ((T.data.toList.take k).all isDigB = true)) (fun _ i => T.size - (intOf i).toNat)
    case atStart => exact ⟨0, by omega, rfl, rfl, hid rfl⟩
    case round =>
      obtain ⟨k, hk, rfl, rfl, HI⟩ := hrel
      by_cases hlt : k < T.size
      · have hlti : (k : Int) < (T.size : Int) := by omega
        obtain ⟨d, hd⟩ : ∃ d, T[k]'hlt = d := ⟨_, rfl⟩
        have HD := hid ((getD_byte T k hlt).trans hd)
        have hdb : (d.toNat : Int) < 256 := by have := d.toNat_lt; omega
        have HS := hid (allN_take (p := isDigB) (l := T.data.toList) (k := k) (by rw [← Lib.size_eq]; exact hlt))
        have HX := hid (fun h => allN_false (p := isDigB) (l := T.data.toList) (k := k) (by rw [← Lib.size_eq]; exact hlt) h)
        have HV := hid (valD_take (l := T.data.toList) (k := k) (by rw [← Lib.size_eq]; exact hlt))
        obtain ⟨hv0, hv1⟩ := valD_small (k := k) (by omega) HI.out
        obtain ⟨v, hv⟩ : ∃ v, valD (T.data.toList.take k) = v := ⟨_, rfl⟩
        rw [hv] at hv0 hv1
        have hDd := Digit_same d wc
        cases hdd : isDigB d with
        | true =>
          obtain ⟨d0, d1⟩ := digB hdd
          rw [hdd] at hDd
          have HI' := hid (show (T.data.toList.take (k + 1)).all isDigB = true by rw [HS.out, HI.out, HD.out, hdd]; rfl)
          have HV' := hid (show valD (T.data.toList.take (k + 1)) = 10 * v + ((d.toNat : Int) - 48) by rw [HV.out, hv, HD.out])
          clear hdd
          go_wp2_with fail
          refine hDd.mono ?_
          clear hDd
          rintro e w2 ⟨rfl, hw⟩
          subst w2
          go_wp2
          go_round
          case rel => exact ⟨k + 1, by omega, by go_num, by rw [HV'.out], HI'⟩
          case measure => simp [intOf]; omega
        | false =>
          rw [hdd] at hDd
          have HF := hid (show numR s.data.toList = (0, false) by rw [HR.out, HX.out (by rw [HD.out, hdd])]; rfl)
          clear hdd
          go_wp2_with fail
          refine hDd.mono ?_
          clear hDd
          rintro e w2 ⟨rfl, hw⟩
          subst w2
          go_wp2
          refine bodyPost_ret (v := .tuple #[.int .i64 0, .bool false]) (by simp [results, Tryz.results56, go_sem]) rfl ⟨?_, rfl⟩
          rw [HF.out]
      · have hge : (T.size : Int) ≤ (k : Int) := by omega
        have hfull : T.data.toList.take k = T.data.toList := List.take_of_length_le (by rw [← Lib.size_eq]; omega)
        have hall := HI.out
        rw [hfull] at hall
        obtain ⟨hv0, hv1⟩ := valD_full (by rw [← Lib.size_eq]; exact hT15) hall
        have HF := hid (show numR s.data.toList = (if bb then -(valD T.data.toList) else valD T.data.toList, true) by rw [HR.out, hall]; rfl)
        obtain ⟨v, hv⟩ : ∃ v, valD T.data.toList = v := ⟨_, rfl⟩
        have hvk : valD (T.data.toList.take k) = v := by rw [hfull, hv]
        rw [hv] at hv0 hv1 HF
        clear hall hfull hv HI HR
        cases bb with
        | true =>
          go_wp2
          refine bodyPost_ret (v := .tuple #[.int .i64 (-v), .bool true]) (by simp [results, Tryz.results56, go_sem]) rfl ⟨?_, rfl⟩
          rw [HF.out]; rfl
        | false =>
          go_wp2
          refine bodyPost_ret (v := .tuple #[.int .i64 v, .bool true]) (by simp [results, Tryz.results56, go_sem]) rfl ⟨?_, rfl⟩
          rw [HF.out]; rfl
end Go.Proofs.YtkdhaipjfkalfaaGreatDoor
