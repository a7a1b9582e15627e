import Derived.Test.YtghelkkndkbejaaGreatDoorGe
/- What is proved: the reference for layer 15: an anchor or an alias at a place. -/
namespace Go.Proofs.YtghelkkndkbejaaGreatDoor
open Go Go.RowKit Go.Lib
set_option linter.unusedSimpArgs false
set_option linter.unusedVariables false

set_option maxRecDepth 100000 in
set_option maxHeartbeats 8000000 in
theorem refNamed15_any (s : ByteArray) (p d : Nat) (w : World) (hs : s.size ≤ 1000000) (hp : p < s.size) :
    Calls Tryz.prog 52 #[.string s, .int .i64 p, .int .i64 d] w (PostO (namedT s.data.toList p d) p w) := by
  obtain ⟨c, hc⟩ : ∃ c, s[p]'hp = c := ⟨_, rfl⟩
  have HX := hid (isB_one hp hc 42)
  have hpi : (p : Int) < (s.size : Int) := by omega
  have hp1 : (p : Int) + 1 ≤ (s.size : Int) := by omega
  have hO := Ox.new w (.int .i64 0) (.string ⟨#[]⟩) (.int .i64 0)
  go_enter Tryz.func52, Tryz.ntmps52
  go_wp2
  go_loop [9] (fun i => ∃ k : Nat, p + 1 ≤ k ∧ k ≤ s.size ∧ i = .int .i64 k ∧ Hid (nameOf s.data.toList p = (s.data.toList.take k).drop (p + 1) ++ (s.data.toList.drop k).takeWhile signB)) (fun i => s.size - (intOf i).toNat)
  case atStart => exact ⟨p + 1, by omega, by omega, by go_num, hid (by unfold nameOf; simp)⟩
  case round =>
    obtain ⟨k, hk1, hk2, rfl, HI⟩ := hrel
    go_upto_region 2 with fail
    go_cut [22] from 13 to 24 (fun v wx => wx = tok0 w ∧ ∃ b, v = .bool b ∧ (b = true → k < s.size) ∧ Hid (b = true → nameOf s.data.toList p = (s.data.toList.take (k + 1)).drop (p + 1) ++ (s.data.toList.drop (k + 1)).takeWhile signB) ∧ Hid (b = false → nameOf s.data.toList p = (s.data.toList.take k).drop (p + 1)))
    case first =>
      by_cases hlt : k < s.size
      · have hlti : (k : Int) < (s.size : Int) := by omega
        obtain ⟨z, hz⟩ : ∃ z, s[k]'hlt = z := ⟨_, rfl⟩
        have HD := hid (drop_cons s k hlt)
        have HT := hid (show (s.data.toList.take (k + 1)).drop (p + 1) = (s.data.toList.take k).drop (p + 1) ++ [z] by
          have h1 : k < s.data.toList.length := by rw [← Lib.size_eq]; exact hlt
          rw [List.take_succ_eq_append_getElem h1, List.drop_append_of_le_length (by rw [List.length_take]; omega)]
          congr 2)
        have HZ := hid hz
        have hS := fun wx => refSign15_same z wx
        cases hsg : signB z with
        | true =>
          rw [hsg] at hS
          have H1 := hid (show nameOf s.data.toList p = (s.data.toList.take (k + 1)).drop (p + 1) ++ (s.data.toList.drop (k + 1)).takeWhile signB by
            rw [HI.out, HD.out, HZ.out, List.takeWhile_cons, if_pos hsg, HT.out, List.append_assoc]; rfl)
          clear hsg
          go_wp2_with fail
          refine (hS _).mono ?_
          rintro e w1 ⟨rfl, hw⟩
          subst w1
          go_wp2
          go_meet
          case rel => exact ⟨rfl, true, rfl, fun _ => hlt, hid (fun _ => H1.out), hid (fun h => by cases h)⟩
        | false =>
          rw [hsg] at hS
          have H1 := hid (show nameOf s.data.toList p = (s.data.toList.take k).drop (p + 1) by
            rw [HI.out, HD.out, HZ.out, List.takeWhile_cons, hsg, if_neg (by decide), List.append_nil])
          clear hsg
          go_wp2_with fail
          refine (hS _).mono ?_
          rintro e w1 ⟨rfl, hw⟩
          subst w1
          go_wp2
          go_meet
          case rel => exact ⟨rfl, false, rfl, (fun h => by cases h), hid (fun h => by cases h), hid (fun _ => H1.out)⟩
      · have hge : (s.size : Int) ≤ (k : Int) := by omega
        have H1 := hid (show nameOf s.data.toList p = (s.data.toList.take k).drop (p + 1) by
          rw [HI.out, List.drop_eq_nil_of_le (show s.data.toList.length ≤ k by rw [← Lib.size_eq]; omega)]; simp)
        go_wp2
        go_meet
        case rel => exact ⟨rfl, false, rfl, (fun h => by cases h), hid (fun h => by cases h), hid (fun _ => H1.out)⟩
    case rest =>
    obtain ⟨rfl, b, rfl, hpos, H1, H2⟩ := hcut
    cases b with
    | true =>
      have hlt := hpos rfl
      have H3 := hid (H1.out rfl)
      clear H1 H2 HI hpos
      go_wp2
      go_round
      case rel => exact ⟨k + 1, by omega, by omega, by go_num, H3⟩
      case measure => simp [intOf]; omega
    | false =>
      obtain ⟨N, hN⟩ : ∃ N, s.extract (p + 1) k = N := ⟨_, rfl⟩
      have hNl : N.data.toList = nameOf s.data.toList p := by rw [H2.out rfl, ← hN, Lib.extract_data, List.drop_take]
      have hNz : k = p + 1 + N.size := by rw [← hN, ByteArray.size_extract]; omega
      have hNs : N.size ≤ 1000000 := by rw [← hN, ByteArray.size_extract]; omega
      have hk1i : (p : Int) + 1 ≤ (k : Int) := by omega
      have hk2i : (k : Int) ≤ (s.size : Int) := by omega
      have hIN := fun wx => refIsName_same N wx hNs
      have hCL := fun wx => refClosed_same s k d wx hs (by omega)
      obtain ⟨bn, hbn⟩ : ∃ b, nameB N.data.toList = b := ⟨_, rfl⟩
      obtain ⟨bc, hbc⟩ : ∃ b, closedB s.data.toList k d = b := ⟨_, rfl⟩
      rw [hbn] at hIN
      rw [hbc] at hCL
      have HV : Hid (namedT s.data.toList p d = if bn && bc then .ok (if isB s.data.toList p [42] then 4 else 3) N.data.toList k d else .bad 90) := hid (by
        unfold namedT
        rw [← hNl, hbn, ← Lib.size_eq, ← hNz, hbc])
      clear hNl hNz hbn hbc H1 H2 HI hpos
      cases hx : ((c.toNat : Int) == 42) with
      | true =>
        have HV2 := hid (show namedT s.data.toList p d = if bn && bc then .ok 4 N.data.toList k d else .bad 90 by rw [HV.out, HX.out]; show (if bn && bc then TR.ok (if ((c.toNat : Int) == 42) = true then 4 else 3) _ _ _ else _) = _; rw [hx]; rfl)
        clear HV HX
        go_wp2_with fail
        refine (hIN _).mono ?_
        rintro e w1 ⟨rfl, hw⟩
        subst w1
        have hO2 : Ox w (.int .i64 0) (.string ⟨#[]⟩) (.int .i64 0) ((tok0 w).alloc (.cells #[.int .i64 4, .string N, .int .i64 p] 33)) := hO.below ((Below.refl _ _).alloc (Nat.le_refl _) _)
        cases bn with
        | false =>
          obtain ⟨n0, n1, n2, g0, g1, g2⟩ := hO2.cells
          go_wp2
          have hF := hO2.fin (.int .i64 0) (.string ⟨#[]⟩) (.int .i64 0)
          obtain ⟨e0, e1, e2, _⟩ := hF.cells
          refine bodyPost_ret (v := .tuple #[.agg #[.int .i64 0, .string ⟨#[]⟩, .int .i64 0], .int .i64 0, .int .i64 90]) (by simp [results, Tryz.results52, go_sem, e0, e1, e2]) rfl ?_
          rw [show namedT s.data.toList p d = .bad 90 from HV2.out]
          exact postO_bad rfl (by first | exact hF.bel | exact ((Below.refl _ w).alloc (Nat.le_refl _) _).alloc (by simp) _)
        | true =>
          go_wp2_with fail
          refine (hCL _).mono ?_
          rintro e w1 ⟨rfl, hw⟩
          subst w1
          obtain ⟨n0, n1, n2, g0, g1, g2⟩ := hO2.cells
          cases bc with
          | false =>
            go_wp2
            have hF := hO2.fin (.int .i64 0) (.string ⟨#[]⟩) (.int .i64 0)
            obtain ⟨e0, e1, e2, _⟩ := hF.cells
            refine bodyPost_ret (v := .tuple #[.agg #[.int .i64 0, .string ⟨#[]⟩, .int .i64 0], .int .i64 0, .int .i64 90]) (by simp [results, Tryz.results52, go_sem, e0, e1, e2]) rfl ?_
            rw [show namedT s.data.toList p d = .bad 90 from HV2.out]
            exact postO_bad rfl (by first | exact hF.bel | exact ((Below.refl _ w).alloc (Nat.le_refl _) _).alloc (by simp) _)
          | true =>
            go_wp2
            have hF := hO2.fin (.int .i64 4) (.string N) (.int .i64 p)
            obtain ⟨e0, e1, e2, _⟩ := hF.cells
            refine bodyPost_ret (v := .tuple #[.agg #[.int .i64 4, .string N, .int .i64 p], .int .i64 k, .int .i64 0]) (by simp [results, Tryz.results52, go_sem, e0, e1, e2]) rfl ?_
            rw [show namedT s.data.toList p d = .ok 4 N.data.toList k d from HV2.out]
            exact postO_ok rfl (by first | exact hF.bel | exact ((Below.refl _ w).alloc (Nat.le_refl _) _).alloc (by simp) _)
      | false =>
        have HV2 := hid (show namedT s.data.toList p d = if bn && bc then .ok 3 N.data.toList k d else .bad 90 by rw [HV.out, HX.out]; show (if bn && bc then TR.ok (if ((c.toNat : Int) == 42) = true then 4 else 3) _ _ _ else _) = _; rw [hx]; rfl)
        clear HV HX
        go_wp2_with fail
        refine (hIN _).mono ?_
        rintro e w1 ⟨rfl, hw⟩
        subst w1
        have hO2 : Ox w (.int .i64 0) (.string ⟨#[]⟩) (.int .i64 0) ((tok0 w).alloc (.cells #[.int .i64 3, .string N, .int .i64 p] 33)) := hO.below ((Below.refl _ _).alloc (Nat.le_refl _) _)
        cases bn with
        | false =>
          obtain ⟨n0, n1, n2, g0, g1, g2⟩ := hO2.cells
          go_wp2
          have hF := hO2.fin (.int .i64 0) (.string ⟨#[]⟩) (.int .i64 0)
          obtain ⟨e0, e1, e2, _⟩ := hF.cells
          refine bodyPost_ret (v := .tuple #[.agg #[.int .i64 0, .string ⟨#[]⟩, .int .i64 0], .int .i64 0, .int .i64 90]) (by simp [results, Tryz.results52, go_sem, e0, e1, e2]) rfl ?_
          rw [show namedT s.data.toList p d = .bad 90 from HV2.out]
          exact postO_bad rfl (by first | exact hF.bel | exact ((Below.refl _ w).alloc (Nat.le_refl _) _).alloc (by simp) _)
        | true =>
          go_wp2_with fail
          refine (hCL _).mono ?_
          rintro e w1 ⟨rfl, hw⟩
          subst w1
          obtain ⟨n0, n1, n2, g0, g1, g2⟩ := hO2.cells
          cases bc with
          | false =>
            go_wp2
            have hF := hO2.fin (.int .i64 0) (.string ⟨#[]⟩) (.int .i64 0)
            obtain ⟨e0, e1, e2, _⟩ := hF.cells
            refine bodyPost_ret (v := .tuple #[.agg #[.int .i64 0, .string ⟨#[]⟩, .int .i64 0], .int .i64 0, .int .i64 90]) (by simp [results, Tryz.results52, go_sem, e0, e1, e2]) rfl ?_
            rw [show namedT s.data.toList p d = .bad 90 from HV2.out]
            exact postO_bad rfl (by first | exact hF.bel | exact ((Below.refl _ w).alloc (Nat.le_refl _) _).alloc (by simp) _)
          | true =>
            go_wp2
            have hF := hO2.fin (.int .i64 3) (.string N) (.int .i64 p)
            obtain ⟨e0, e1, e2, _⟩ := hF.cells
            refine bodyPost_ret (v := .tuple #[.agg #[.int .i64 3, .string N, .int .i64 p], .int .i64 k, .int .i64 0]) (by simp [results, Tryz.results52, go_sem, e0, e1, e2]) rfl ?_
            rw [show namedT s.data.toList p d = .ok 3 N.data.toList k d from HV2.out]
            exact postO_ok rfl (by first | exact hF.bel | exact ((Below.refl _ w).alloc (Nat.le_refl _) _).alloc (by simp) _)
end Go.Proofs.YtghelkkndkbejaaGreatDoor
