import Derived.Test.YtkdhaipjfkalfaaGreatDoorSd
import Derived.Test.YtkdhaipjfkalfaaGreatDoorQq
import Derived.Lib.ItoaLen
import Derived.IntWalk
import Derived.Test.YtkdhaipjfkalfaaGreatDoorSr
/- What is proved: the reference's digits of a number; a sign between quotes, a text between quotes. -/
namespace Go.Proofs.YtkdhaipjfkalfaaGreatDoor
open Go Go.RowKit Go.Lib
set_option linter.unusedSimpArgs false
set_option linter.unusedVariables false

def tenB : ByteArray := ⟨#[48, 49, 50, 51, 52, 53, 54, 55, 56, 57]⟩
theorem ten_at : ∀ j : Fin 10, tenB.extract j.val (j.val + 1) = ⟨#[UInt8.ofNat (48 + j.val)]⟩ := by decide +kernel
theorem dec_size (n : Nat) (h : n ≤ 99999999999999999) : (⟨(decDigits n).toArray⟩ : ByteArray).size ≤ 20 := by
  rw [Lib.size_eq, toList_mk, decDigits_length]; exact nDigits_le20 n (by omega)
theorem app_mk (a b : List UInt8) : (⟨a.toArray⟩ : ByteArray) ++ ⟨b.toArray⟩ = ⟨(a ++ b).toArray⟩ := mk_of (by simp)
theorem ten_slice (n : Nat) (z : Int) (hz : z = ((n % 10 : Nat) : Int)) (wx : World) : (Instr.slice 9 (.string tenB) (some (.int .i64 z)) (some (.int .i64 (z + 1))) none).run Tryz.prog wx = .ok (.string ⟨#[UInt8.ofNat (48 + n % 10)]⟩) wx := by
  have h := run_slice_string (P := Tryz.prog) wx 9 tenB .i64 .i64 z (z + 1) (by kernel_rfl) (by omega) (by omega) (by show _ ≤ (10 : Int); omega)
  rw [show z.toNat = n % 10 by omega, show (z + 1).toNat = n % 10 + 1 by omega, ten_at ⟨n % 10, by omega⟩] at h
  exact h

set_option maxRecDepth 100000 in
set_option maxHeartbeats 1000000 in
theorem digits_nat (f : Nat) : ∀ (n : Nat) (w : World), n < 10 ^ (f + 1) → n ≤ 99999999999999999 →
    Calls Tryz.prog 33 #[.int .i64 n] w fun e w' => e = .returned (.string ⟨(decDigits n).toArray⟩) ∧ ∃ q, w' = w.drewN q := by
  induction f with
  | zero =>
    intro n w hf hn
    have h0 : ¬ (n : Int) < 0 := by omega
    have h10 : (n : Int) < 10 := by omega
    have hsl := ten_slice n n (by omega)
    obtain ⟨c, hc⟩ : ∃ c, UInt8.ofNat (48 + n % 10) = c := ⟨_, rfl⟩
    rw [hc] at hsl
    have HD := hid (show decDigits n = [c] by rw [← hc, dec_small (by omega), Nat.mod_eq_of_lt (by omega)])
    unfold tenB at hsl
    clear hf hc
    go_enter Tryz.func33, Tryz.ntmps33
    go_wp2_with fail
    go_ret
    exact ⟨by rw [HD.out]; rfl, 0, rfl⟩
  | succ f ih =>
    intro n w hf hn
    have h0 : ¬ (n : Int) < 0 := by omega
    by_cases hs : n < 10
    · have h10 : (n : Int) < 10 := by omega
      have hsl := ten_slice n n (by omega)
      obtain ⟨c, hc⟩ : ∃ c, UInt8.ofNat (48 + n % 10) = c := ⟨_, rfl⟩
      rw [hc] at hsl
      have HD := hid (show decDigits n = [c] by rw [← hc, dec_small (by omega), Nat.mod_eq_of_lt (by omega)])
      unfold tenB at hsl
      clear hf ih hc
      go_enter Tryz.func33, Tryz.ntmps33
      go_wp2_with fail
      go_ret
      exact ⟨by rw [HD.out]; rfl, 0, rfl⟩
    · have h10 : ¬ (n : Int) < 10 := by omega
      have hc : ∀ wx, Calls Tryz.prog 33 #[.int .i64 ((n : Int) / 10)] wx fun e w' => e = .returned (.string ⟨(decDigits (n / 10)).toArray⟩) ∧ ∃ q, w' = wx.drewN q := fun wx => by
        have := ih (n / 10) wx (by rw [Nat.pow_succ] at hf; omega) (by omega)
        rwa [show ((n / 10 : Nat) : Int) = (n : Int) / 10 by omega] at this
      have hsl := ten_slice n ((n : Int) % 10) (by omega)
      obtain ⟨c, hcc⟩ : ∃ c, UInt8.ofNat (48 + n % 10) = c := ⟨_, rfl⟩
      rw [hcc] at hsl
      have hDs := dec_size (n / 10) (by omega)
      have hd : (⟨(decDigits (n / 10)).toArray⟩ : ByteArray) ++ ⟨#[c]⟩ = ⟨(decDigits n).toArray⟩ := by rw [dec_big hs, hcc]; exact app_mk _ [_]
      obtain ⟨D, hDD⟩ : ∃ D, (⟨(decDigits (n / 10)).toArray⟩ : ByteArray) = D := ⟨_, rfl⟩
      rw [hDD] at hc hd hDs
      have HD := hid hd
      unfold tenB at hsl
      have HC := hid hc
      clear hf ih hc hcc hDD hd
      have z1 : (⟨#[c]⟩ : ByteArray).size = 1 := rfl
      have e1 : (n : Int).tdiv 10 = (n : Int) / 10 := Int.tdiv_eq_ediv_of_nonneg (by omega)
      have e2 : (n : Int).tmod 10 = (n : Int) % 10 := Int.tmod_eq_emod_of_nonneg (by omega)
      have b0 : 0 ≤ (n : Int) % 10 := by omega
      have b1 : (n : Int) % 10 ≤ 9 := by omega
      have b2 : 0 ≤ (n : Int) / 10 := by omega
      have b3 : (n : Int) / 10 ≤ 99999999999999999 := by omega
      have e3 : IntKind.i64.wrap ((n : Int) % 10 + 1) = (n : Int) % 10 + 1 := IntWalk.i64_in _ (by omega)
      have e4 : IntKind.i64.wrap ((n : Int) / 10) = (n : Int) / 10 := IntWalk.i64_in _ (by omega)
      have e5 : IntKind.i64.wrap ((n : Int) % 10) = (n : Int) % 10 := IntWalk.i64_in _ (by omega)
      go_enter Tryz.func33, Tryz.ntmps33
      go_wp2_with fail
      go_quiet ((go_at_call 33; exact Calls.quiet_of (HC.out _)))
      go_wp2_with fail
      go_ret
      exact ⟨by rw [HD.out]; rfl, _, rfl⟩

set_option maxRecDepth 100000 in
theorem digits_any (n : Int) (w : World) (h0 : -999999999999999 ≤ n) (h1 : n ≤ 999999999999999) :
    Calls Tryz.prog 33 #[.int .i64 n] w fun e w' => e = .returned (.string ⟨(itoa n).toArray⟩) ∧ Below w.heap.size w w' := by
  by_cases hn : n < 0
  · obtain ⟨m, rfl⟩ : ∃ m : Nat, n = -(m : Int) := ⟨n.natAbs, by omega⟩
    have hm : (0 : Int) < (m : Int) := by omega
    have hm2 : (m : Int) ≤ 999999999999999 := by omega
    have hc := fun wx => digits_nat 20 m wx (by have : (10 : Nat) ^ 21 = 1000000000000000000000 := by decide
                                                omega) (by omega)
    have hd : (⟨#[45]⟩ : ByteArray) ++ ⟨(decDigits m).toArray⟩ = ⟨(itoa (-(m : Int))).toArray⟩ := by
      rw [itoa_sg]; unfold sgOf; rw [if_pos hn, show (-(m : Int)).natAbs = m by omega]; exact app_mk [45] _
    have hDs := dec_size m (by omega)
    obtain ⟨D, hDD⟩ : ∃ D, (⟨(decDigits m).toArray⟩ : ByteArray) = D := ⟨_, rfl⟩
    rw [hDD] at hc hd hDs
    have HD := hid hd
    have HC := hid hc
    have z1 : (⟨#[45]⟩ : ByteArray).size = 1 := rfl
    clear hc h0 h1 hDD hd
    go_enter Tryz.func33, Tryz.ntmps33
    go_wp2_with fail
    refine (HC.out _).mono ?_
    rintro e w' ⟨rfl, q, rfl⟩
    go_wp2_with fail
    go_ret
    exact ⟨by rw [HD.out]; rfl, below_drewN (Below.refl _ _)⟩
  · obtain ⟨m, rfl⟩ : ∃ m : Nat, n = (m : Int) := ⟨n.natAbs, by omega⟩
    refine (digits_nat 20 m w (by have : (10 : Nat) ^ 21 = 1000000000000000000000 := by decide
                                  omega) (by omega)).mono ?_
    rintro e w' ⟨rfl, q, rfl⟩
    refine ⟨?_, below_drewN (Below.refl _ _)⟩
    rw [itoa_sg]; unfold sgOf; rw [if_neg hn]; rfl

def hexB : ByteArray := ⟨#[48, 49, 50, 51, 52, 53, 54, 55, 56, 57, 97, 98, 99, 100, 101, 102]⟩
theorem hex_ext : ∀ j : Fin 16, hexB.extract j.val (j.val + 1) = ⟨#[hexC j.val]⟩ := by decide +kernel
theorem hex_slice (q : Nat) (hq : q < 16) (z : Int) (hz : z = (q : Int)) (wx : World) : (Instr.slice 9 (.string hexB) (some (.int .i64 z)) (some (.int .i64 (z + 1))) none).run Tryz.prog wx = .ok (.string ⟨#[hexC q]⟩) wx := by
  have h := run_slice_string (P := Tryz.prog) wx 9 hexB .i64 .i64 z (z + 1) (by kernel_rfl) (by omega) (by omega) (by show _ ≤ (16 : Int); omega)
  rw [show z.toNat = q by omega, show (z + 1).toNat = q + 1 by omega, hex_ext ⟨q, hq⟩] at h
  exact h

set_option maxRecDepth 100000 in
set_option maxHeartbeats 1000000 in
theorem refOne04_any (r : Nat) (w : World) (hr : SignN r) :
    Calls Tryz.prog 52 #[.int .i64 r] w fun e w' => e = .returned (.string ⟨(qsign r).toArray⟩) ∧ Below w.heap.size w w' := by
  by_cases c1 : r = 34
  · subst c1
    go_enter Tryz.func52, Tryz.ntmps52
    go_wp2
    go_ret
    exact ⟨rfl, Below.refl _ _⟩
  by_cases c2 : r = 92
  · subst c2
    go_enter Tryz.func52, Tryz.ntmps52
    go_wp2
    go_ret
    exact ⟨rfl, Below.refl _ _⟩
  by_cases c3 : r = 10
  · subst c3
    go_enter Tryz.func52, Tryz.ntmps52
    go_wp2
    go_ret
    exact ⟨rfl, Below.refl _ _⟩
  by_cases c4 : r = 9
  · subst c4
    go_enter Tryz.func52, Tryz.ntmps52
    go_wp2
    go_ret
    exact ⟨rfl, Below.refl _ _⟩
  by_cases c5 : r = 13
  · subst c5
    go_enter Tryz.func52, Tryz.ntmps52
    go_wp2
    go_ret
    exact ⟨rfl, Below.refl _ _⟩
  have d1 : ((r : Int) == 34) = false := by rw [beq_eq_false_iff_ne]; omega
  have d2 : ((r : Int) == 92) = false := by rw [beq_eq_false_iff_ne]; omega
  have d3 : ((r : Int) == 10) = false := by rw [beq_eq_false_iff_ne]; omega
  have d4 : ((r : Int) == 9) = false := by rw [beq_eq_false_iff_ne]; omega
  have d5 : ((r : Int) == 13) = false := by rw [beq_eq_false_iff_ne]; omega
  have hq : qsign r = if plainRune r then encodeRune r else [92, 120, hexC (r / 16), hexC (r % 16)] := by
    unfold qsign
    rw [if_neg c3, if_neg c4, if_neg c5, if_neg (by omega)]
  have hp : plainRune r = plainN (r : Int) := rfl
  cases hpl : plainRune r with
  | true =>
    rw [hpl, if_pos rfl] at hq
    rw [hp] at hpl
    have HQ := hid hq
    have hP := fun wx => refPlain_same (r : Int) wx
    rw [hpl] at hP
    have hB := fun wx => Bytes_any (r : Int) wx hr
    clear c1 c2 c3 c4 c5 hq hp hpl
    go_enter Tryz.func52, Tryz.ntmps52
    go_wp2_with fail
    refine (hP _).mono ?_
    rintro e w' ⟨rfl, hw⟩
    subst w'
    go_wp2_with fail
    refine (hB _).mono ?_
    rintro e w' ⟨rfl, hb⟩
    go_wp2_with fail
    go_ret
    exact ⟨by rw [HQ.out]; rfl, hb⟩
  | false =>
    have hlt := not_plain hpl
    rw [hpl, if_neg (by decide)] at hq
    rw [hp] at hpl
    have hP := fun wx => refPlain_same (r : Int) wx
    rw [hpl] at hP
    have s1 := hex_slice (r / 16) (by omega) ((r : Int) / 16) (by omega)
    have s2 := hex_slice (r % 16) (by omega) ((r : Int) % 16) (by omega)
    have b0 : 0 ≤ (r : Int) / 16 := by omega
    have b1 : (r : Int) / 16 ≤ 15 := by omega
    have b2 : 0 ≤ (r : Int) % 16 := by omega
    have b3 : (r : Int) % 16 ≤ 15 := by omega
    have b4 : (r : Int) < 128 := by omega
    have HQ := hid (show ((⟨#[92, 120]⟩ : ByteArray) ++ ⟨#[hexC (r / 16)]⟩) ++ ⟨#[hexC (r % 16)]⟩ = ⟨(qsign r).toArray⟩ by
      rw [hq]; exact (congrArg (· ++ (⟨#[hexC (r % 16)]⟩ : ByteArray)) (app_mk [92, 120] [_])).trans (app_mk _ [_]))
    unfold hexB at s1 s2
    clear c1 c2 c3 c4 c5 hq hp hpl hr hlt
    go_enter Tryz.func52, Tryz.ntmps52
    go_wp2_with fail
    refine (hP _).mono ?_
    rintro e w' ⟨rfl, hw⟩
    subst w'
    go_wp2_with fail
    go_quiet (fail)
    go_wp2_with fail
    go_ret
    exact ⟨by rw [HQ.out]; rfl, below_drewN (Below.refl _ _)⟩

theorem app_lst (a b : ByteArray) : (a ++ b).data.toList = a.data.toList ++ b.data.toList := by simp
theorem runes_len (l : List UInt8) : (runes l).length ≤ l.length := by
  induction h : l.length using Nat.strongRecOn generalizing l with
  | ind n ih =>
    subst h
    by_cases hne : l = []
    · subst hne; rw [runes_nil]; simp
    · rw [runes_step l hne]
      have h1 := Lib.decodeL_width l
      have hl : 0 < l.length := List.length_pos_iff.2 hne
      have := ih (l.drop (decodeL l).2).length (by rw [List.length_drop]; omega) (l.drop (decodeL l).2) rfl
      rw [List.length_drop] at this
      simp only [List.length_cons]; omega

set_option maxRecDepth 100000 in
set_option maxHeartbeats 2000000 in
theorem refQuote_any (s : ByteArray) (w : World) (hs : s.size ≤ 100000) :
    Calls Tryz.prog 34 #[.string s] w fun e w' => e = .returned (quoteV s.data.toList) ∧ Below w.heap.size w w' := by
  unfold quoteV
  have hS := Signs_any s w (by omega)
  cases hv : validD s.data.toList with
  | false =>
    rw [show signsP s.data.toList = ([], 40) by unfold signsP; rw [hv]; rfl] at hS
    rw [if_neg (by decide)]
    clear hv
    go_enter Tryz.func34, Tryz.ntmps34
    go_wp2_with fail
    refine hS.mono ?_
    rintro e w1 ⟨v, rfl, -, -, hb⟩
    go_wp2_with fail
    refine bodyPost_ret (v := .tuple #[.string ⟨#[]⟩, .int .i64 40]) (by simp [results, Tryz.results34, go_sem]) rfl ?_
    exact ⟨rfl, hb⟩
  | true =>
    rw [show signsP s.data.toList = (runesZ s.data.toList, 0) by unfold signsP; rw [hv]; rfl] at hS
    rw [if_pos rfl]
    have hsg := runes_sign s.data.toList.length s.data.toList (Nat.le_refl _) hv
    unfold quoteP
    unfold runesZ at hS
    obtain ⟨rs, hrs⟩ : ∃ rs, runes s.data.toList = rs := ⟨_, rfl⟩
    rw [hrs] at hS hsg ⊢
    simp only [List.length_map, List.map_map] at hS
    have HSG := hid hsg
    clear hv hrs hsg
    go_enter Tryz.func34, Tryz.ntmps34
    go_wp2_with fail
    refine hS.mono ?_
    rintro e w1 ⟨v, rfl, hown, hlen, hb⟩
    have hcells : ∃ A cap, v = .slice A rs.length cap ∧ ∀ k, k < rs.length → ∃ b, A = some ⟨b, 0, none⟩ ∧ b < w1.heap.size ∧ w1.cell? ⟨b, k, none⟩ = some (.int .i64 (rs.getD k 0)) := by
      rcases hown.2 with ⟨hv, h0⟩ | ⟨g, cap, cur, hv, _, hg, hnc, hcm, hsz, htake⟩
      · exact ⟨none, 0, by rw [hv, h0], fun k hk => by omega⟩
      · refine ⟨some ⟨g, 0, none⟩, cap, hv, fun k hk => ⟨g, rfl, (Array.getElem?_eq_some_iff.1 hg).1, ?_⟩⟩
        rw [cell_of_row w1 g k cur 3 (0, 0) hg]
        have hu : (rs.map (Value.int .i64 ∘ fun n : Nat => (n : Int)))[k]? = some (.int .i64 (rs.getD k 0)) := by
          rw [List.getElem?_map, List.getElem?_eq_getElem hk]
          simp [List.getD, List.getElem?_eq_getElem hk]
        rw [← htake, List.getElem?_take] at hu
        split at hu
        · rw [Array.getElem?_toList] at hu; exact hu
        · cases hu
    obtain ⟨A, cap, rfl, hA⟩ := hcells
    obtain ⟨n, hn⟩ : ∃ n, rs.length = n := ⟨_, rfl⟩
    rw [hn] at hA hlen ⊢
    have HN := hid hn
    have HA := hid hA
    clear hown hn hS hA
    go_wp2_with fail
    go_loopw [6, 7] (fun out i wr => ∃ (k : Nat) (S : ByteArray), k ≤ n ∧ i = .int .i64 k ∧ out = .string S ∧ Hid (S.data.toList = 34 :: (rs.take k).flatMap qsign) ∧ S.size ≤ 1 + 4 * k ∧ Below w1.heap.size w1 wr) (fun _ i _ => n - (intOf i).toNat)
    case atStart => exact ⟨0, ⟨#[34]⟩, by omega, rfl, rfl, hid rfl, by decide, Below.refl _ _⟩
    case round =>
      obtain ⟨k, S, hk, rfl, rfl, HS, hSs, hb2⟩ := hrel
      by_cases hlt : k < n
      · obtain ⟨b, rfl, hbl, hc⟩ := HA.out k hlt
        replace hc := cell_below hc hb2
        have hki : (k : Int) < (n : Int) := by omega
        have hkl : k < rs.length := by rw [HN.out]; exact hlt
        obtain ⟨r, hr⟩ : ∃ r, rs.getD k 0 = r := ⟨_, rfl⟩
        rw [hr] at hc
        have hr' : rs[k] = r := by rw [← hr]; simp [List.getD, List.getElem?_eq_getElem hkl]
        have hsign : SignN r := HSG.out r (by rw [← hr']; exact List.getElem_mem _)
        have hq4 := qsign_le r
        obtain ⟨E, hE⟩ : ∃ E, S ++ (⟨(qsign r).toArray⟩ : ByteArray) = E := ⟨_, rfl⟩
        have HE := hid (show E.data.toList = 34 :: (rs.take (k + 1)).flatMap qsign by
          rw [← hE, app_lst, HS.out, toList_mk, flat_take qsign rs k hkl, hr']; simp)
        have hEs : E.size ≤ 1 + 4 * (k + 1) := by
          rw [← hE, ByteArray.size_append]
          have : (⟨(qsign r).toArray⟩ : ByteArray).size = (qsign r).length := by rw [Lib.size_eq, toList_mk]
          omega
        have HEE := hid hE
        clear hr hr' hkl hE
        go_wp2_with fail
        refine (refOne04_any r _ hsign).mono ?_
        rintro e w3 ⟨rfl, hb3⟩
        have hb4 : Below w1.heap.size w1 w3 := hb2.trans (hb3.mono hb2.size)
        clear hb2 hb3 hc
        go_wp2_with fail
        go_roundw
        case rel => exact ⟨k + 1, E, by omega, by go_num, by rw [HEE.out], HE, hEs, hb4⟩
        case measure => simp [intOf]; omega
      · have hki : ¬ (k : Int) < (n : Int) := by omega
        have HF := hid (show S ++ (⟨#[34]⟩ : ByteArray) = ⟨(34 :: (rs.flatMap qsign ++ [34])).toArray⟩ by
          refine mk_of ?_
          rw [app_lst, HS.out, List.take_of_length_le (by rw [HN.out]; omega)]
          rfl)
        have hb5 : Below w.heap.size w wr := hb.trans (hb2.mono hb.size)
        clear HS hb2 HA HSG
        go_wp2_with fail
        refine bodyPost_ret (v := .tuple #[.string (S ++ ⟨#[34]⟩), .int .i64 0]) (by simp [results, Tryz.results34, go_sem]) rfl ?_
        exact ⟨by rw [HF.out], hb5⟩
end Go.Proofs.YtkdhaipjfkalfaaGreatDoor

/- What is proved: the reference for layer 6: Text, at every scalar whose text is of a bounded length. -/
namespace Go.Proofs.YtkdhaipjfkalfaaGreatDoor
open Go Go.RowKit Go.Lib
set_option linter.unusedSimpArgs false
set_option linter.unusedVariables false

set_option maxRecDepth 100000 in
set_option maxHeartbeats 2000000 in
theorem refText_any (x : Sc) (w : World) (hs : x.str.size ≤ 100000) :
    Calls Tryz.prog 15 #[scV x] w fun e w' => e = .returned (textV x) ∧ Below w.heap.size w w' := by
  unfold textV
  obtain ⟨k, n, s⟩ := x
  have hR := fun wx (hx : Below w.heap.size w wx) => refRight_any k n s wx (by simp only at hs; omega)
  have hb0 : Below w.heap.size w (w.alloc (.cells #[.int .i64 k, .int .i64 n, .string s] 23)) := (Below.refl _ w).alloc (Nat.le_refl _) _
  unfold scV
  cases hr : rightP ⟨k, n, s⟩ with
  | false =>
    rw [hr] at hR
    rw [show textP ⟨k, n, s⟩ = (⟨#[]⟩, 60) by unfold textP; rw [hr]; rfl]
    clear hr
    go_enter Tryz.func15, Tryz.ntmps15
    go_wp2_with fail
    refine (hR _ hb0).mono ?_
    rintro e w' ⟨rfl, hb⟩
    go_wp2
    refine bodyPost_ret (v := .tuple #[.string ⟨#[]⟩, .int .i64 60]) (by simp [results, Tryz.results15, go_sem]) rfl ?_
    exact ⟨rfl, hb0.trans (hb.mono (by simp))⟩
  | true =>
    rw [hr] at hR
    rcases right_cases hr with h | h | h | ⟨m, h, h0, h1⟩ | ⟨t, h, hv⟩
    · simp only [sc0, Sc.mk.injEq] at h
      obtain ⟨rfl, rfl, rfl⟩ := h
      rw [show textP ⟨0, 0, ⟨#[]⟩⟩ = ((⟨#[110, 117, 108, 108]⟩ : ByteArray), (0 : Int)) by unfold textP; rw [hr, if_pos rfl]; rfl]
      clear hr
      go_enter Tryz.func15, Tryz.ntmps15
      go_wp2_with fail
      refine (hR _ hb0).mono ?_
      rintro e w1 ⟨rfl, hb⟩
      have hk := heap_new _ _ hb
      obtain ⟨c0, c1, c2, f0, f1, f2⟩ := blk3 hk
      have hb1 : Below w.heap.size w w1 := hb0.trans (hb.mono (by simp))
      clear hk hb
      go_wp2
      refine bodyPost_ret (v := .tuple #[.string (⟨#[110, 117, 108, 108]⟩ : ByteArray), .int .i64 0]) (by simp [results, Tryz.results15, go_sem]) rfl ?_
      exact ⟨rfl, hb1⟩
    · simp only [sc0, Sc.mk.injEq] at h
      obtain ⟨rfl, rfl, rfl⟩ := h
      rw [show textP ⟨1, 1, ⟨#[]⟩⟩ = ((⟨#[116, 114, 117, 101]⟩ : ByteArray), (0 : Int)) by unfold textP; rw [hr, if_pos rfl]; rfl]
      clear hr
      go_enter Tryz.func15, Tryz.ntmps15
      go_wp2_with fail
      refine (hR _ hb0).mono ?_
      rintro e w1 ⟨rfl, hb⟩
      have hk := heap_new _ _ hb
      obtain ⟨c0, c1, c2, f0, f1, f2⟩ := blk3 hk
      have hb1 : Below w.heap.size w w1 := hb0.trans (hb.mono (by simp))
      clear hk hb
      go_wp2
      refine bodyPost_ret (v := .tuple #[.string (⟨#[116, 114, 117, 101]⟩ : ByteArray), .int .i64 0]) (by simp [results, Tryz.results15, go_sem]) rfl ?_
      exact ⟨rfl, hb1⟩
    · simp only [sc0, Sc.mk.injEq] at h
      obtain ⟨rfl, rfl, rfl⟩ := h
      rw [show textP ⟨1, 0, ⟨#[]⟩⟩ = ((⟨#[102, 97, 108, 115, 101]⟩ : ByteArray), (0 : Int)) by unfold textP; rw [hr, if_pos rfl]; rfl]
      clear hr
      go_enter Tryz.func15, Tryz.ntmps15
      go_wp2_with fail
      refine (hR _ hb0).mono ?_
      rintro e w1 ⟨rfl, hb⟩
      have hk := heap_new _ _ hb
      obtain ⟨c0, c1, c2, f0, f1, f2⟩ := blk3 hk
      have hb1 : Below w.heap.size w w1 := hb0.trans (hb.mono (by simp))
      clear hk hb
      go_wp2
      refine bodyPost_ret (v := .tuple #[.string (⟨#[102, 97, 108, 115, 101]⟩ : ByteArray), .int .i64 0]) (by simp [results, Tryz.results15, go_sem]) rfl ?_
      exact ⟨rfl, hb1⟩
    · simp only [sc0, Sc.mk.injEq] at h
      obtain ⟨rfl, rfl, rfl⟩ := h
      rw [show textP ⟨2, n, ⟨#[]⟩⟩ = ((⟨(itoa n).toArray⟩ : ByteArray), (0 : Int)) by unfold textP; rw [hr, if_pos rfl]; rfl]
      clear hr
      go_enter Tryz.func15, Tryz.ntmps15
      go_wp2_with fail
      refine (hR _ hb0).mono ?_
      rintro e w1 ⟨rfl, hb⟩
      have hk := heap_new _ _ hb
      obtain ⟨c0, c1, c2, f0, f1, f2⟩ := blk3 hk
      have hb1 : Below w.heap.size w w1 := hb0.trans (hb.mono (by simp))
      clear hk hb
      go_wp2_with fail
      refine (digits_any n _ h0 h1).mono ?_
      rintro e w2 ⟨rfl, hb2⟩
      go_wp2
      refine bodyPost_ret (v := .tuple #[.string (⟨(itoa n).toArray⟩ : ByteArray), .int .i64 0]) (by simp [results, Tryz.results15, go_sem]) rfl ?_
      exact ⟨rfl, hb1.trans (hb2.mono hb1.size)⟩
    · simp only [sc0, Sc.mk.injEq] at h
      obtain ⟨rfl, rfl, rfl⟩ := h
      rw [show textP ⟨3, 0, s⟩ = ((⟨(quoteP s.data.toList).toArray⟩ : ByteArray), (0 : Int)) by unfold textP; rw [hr, if_pos rfl]; rfl]
      have hQ := fun wx => refQuote_any s wx hs
      unfold quoteV at hQ
      rw [hv] at hQ
      simp only [if_true] at hQ
      clear hv
      clear hr
      go_enter Tryz.func15, Tryz.ntmps15
      go_wp2_with fail
      refine (hR _ hb0).mono ?_
      rintro e w1 ⟨rfl, hb⟩
      have hk := heap_new _ _ hb
      obtain ⟨c0, c1, c2, f0, f1, f2⟩ := blk3 hk
      have hb1 : Below w.heap.size w w1 := hb0.trans (hb.mono (by simp))
      clear hk hb
      go_wp2_with fail
      refine (hQ _).mono ?_
      rintro e w2 ⟨rfl, hb2⟩
      go_wp2
      refine bodyPost_ret (v := .tuple #[.string (⟨(quoteP s.data.toList).toArray⟩ : ByteArray), .int .i64 0]) (by simp [results, Tryz.results15, go_sem]) rfl ?_
      exact ⟨rfl, hb1.trans (hb2.mono hb1.size)⟩
end Go.Proofs.YtkdhaipjfkalfaaGreatDoor
