import Derived.Test.YtghelkkndkbejaaGreatDoorGw
import Derived.Test.YtghelkkndkbejaaGreatDoorKp
/- What is proved: the reference for layer 15: Read. -/
namespace Go.Proofs.YtghelkkndkbejaaGreatDoor
open Go Go.RowKit Go.Lib
set_option linter.unusedSimpArgs false
set_option linter.unusedVariables false

theorem OwnT.below {w w' : World} {B : Nat} {v : Value} {ts : List Tk} (h : OwnT w B v ts) (hb : Below w.heap.size w w') : OwnT w' B v ts := ownsRow_below h hb

set_option maxRecDepth 100000 in
set_option maxHeartbeats 16000000 in
theorem refRead15_any (s : ByteArray) (w : World) (hs : s.size ≤ 100000) :
    Calls Tryz.prog 14 #[.string s] w (PostR (readT s.data.toList) w) := by
  have hR := refRight04_any s w (by omega)
  cases hv : validD s.data.toList with
  | false =>
    rw [hv] at hR
    have HRT := hid (show readT s.data.toList = ([], 0, 40) by unfold readT; rw [hv]; rfl)
    clear hv
    go_enter Tryz.func14, Tryz.ntmps14
    go_wp2_with fail
    refine hR.mono ?_
    rintro e w1 ⟨rfl, hb1⟩
    clear hR
    go_wp2
    refine bodyPost_ret (v := .tuple #[.slice none 0 0, .int .i64 0, .int .i64 40]) (by simp [results, Tryz.results14, go_sem]) rfl ?_
    rw [HRT.out]
    exact ⟨.slice none 0 0, rfl, TokSl.nil _, hb1⟩
  | true =>
    rw [hv] at hR
    have hP := fun wx => refPlain14_any s wx (by omega)
    have hpr : plainR s.data.toList = (runes s.data.toList).all plainRune := by rw [plainR_eq, hv, Bool.true_and]
    rw [hpr] at hP
    cases hpl : (runes s.data.toList).all plainRune with
    | false =>
      rw [hpl] at hP
      have HRT := hid (show readT s.data.toList = ([], 0, 80) by unfold readT; rw [hv, hpl]; rfl)
      clear hv hpl hpr
      go_enter Tryz.func14, Tryz.ntmps14
      go_wp2_with fail
      refine hR.mono ?_
      rintro e w1 ⟨rfl, hb1⟩
      clear hR
      go_wp2_with fail
      refine (hP _).mono ?_
      rintro e w2 ⟨rfl, hb2⟩
      have hb3 := hb1.trans (hb2.mono hb1.size)
      clear hP hb1 hb2
      go_wp2
      refine bodyPost_ret (v := .tuple #[.slice none 0 0, .int .i64 0, .int .i64 80]) (by simp [results, Tryz.results14, go_sem]) rfl ?_
      rw [HRT.out]
      exact ⟨.slice none 0 0, rfl, TokSl.nil _, hb3⟩
    | true =>
      rw [hpl] at hP
      have HRT := hid (show readT s.data.toList = foldT (toksT s.data.toList 0 0) [] by unfold readT; rw [hv, hpl]; rfl)
      have hOne := fun p d wx hp => refOne15_any s p d wx hs hp hv
      have HONE := hid hOne
      have HV := hid hv
      have hlen : s.data.toList.length = s.size := by rw [Lib.size_eq]
      have HLEN := hid hlen
      obtain ⟨i0, hi, hz0, hz1, hz2⟩ := info_parts info_tok
      have hu : Tryz.prog.underlying 22 = some (.slice 33) := by kernel_rfl
      have HU := hid hu
      clear hv hpl hpr hOne hu hlen
      go_enter Tryz.func14, Tryz.ntmps14
      go_wp2_with fail
      refine hR.mono ?_
      rintro e w1 ⟨rfl, hb1⟩
      clear hR
      go_wp2_with fail
      refine (hP _).mono ?_
      rintro e w2 ⟨rfl, hb2⟩
      have hb3 := hb1.trans (hb2.mono hb1.size)
      clear hP hb1 hb2
      go_wp2
      go_loopw [5, 6, 7] (fun v dp i wr => ∃ (p d : Nat) (ts : List Tk), p ≤ s.size ∧ i = .int .i64 p ∧ dp = .int .i64 d ∧ d ≤ p ∧ OwnT wr w.heap.size v ts ∧ ts.length ≤ p ∧ Below w.heap.size w wr ∧ Hid (readT s.data.toList = foldT (toksT s.data.toList p d) ts)) (fun _ _ i _ => s.size - (intOf i).toNat)
      case atStart => exact ⟨0, 0, [], by omega, rfl, rfl, by omega, World.ownsRow_nil _ _ _ _, by simp, hb3, HRT⟩
      case round =>
        obtain ⟨p, d, ts, hp, rfl, rfl, hd, hown, hts, hb, HI⟩ := hrel
        by_cases hlt : p < s.size
        · have hlti : (p : Int) < (s.size : Int) := by omega
          have hltl : p < s.data.toList.length := by rw [HLEN.out]; exact hlt
          obtain ⟨c, hc⟩ : ∃ c, s[p]'hlt = c := ⟨_, rfl⟩
          have HB := hid (isB_one hlt hc 32)
          have HL := hid hltl
          clear hltl
          cases hbl : ((c.toNat : Int) == 32) with
          | true =>
            have HI2 := hid (HI.out.trans (by rw [toksT_blank HV.out HL.out (by rw [HB.out]; exact hbl)]))
            clear HI HB
            go_wp2
            go_roundw
            case rel => exact ⟨p + 1, d, ts, by omega, by go_num, rfl, by omega, hown, by omega, hb, HI2⟩
            case measure => simp [intOf]; omega
          | false =>
            have HB2 := hid (show isB s.data.toList p [32] = false by rw [HB.out]; exact hbl)
            have hN := fun wx => refNote_same s p wx (by omega) hlt
            obtain ⟨bn, hbn⟩ : ∃ b, noteB s.data.toList p = b := ⟨_, rfl⟩
            rw [hbn] at hN
            have HBN := hid hbn
            clear hbn HB
            go_wp2_with fail
            refine (hN _).mono ?_
            rintro e w3 ⟨rfl, hw⟩
            subst w3
            clear hN
            cases bn with
            | true =>
              have HF := hid (show readT s.data.toList = (ts, 0, 0) by rw [HI.out, toksT_note HV.out HL.out HB2.out HBN.out]; rfl)
              clear HI
              obtain ⟨A, cap, rfl⟩ : ∃ A cap, u5 = .slice A ts.length cap := by
                rcases hown.2 with ⟨hv, h0⟩ | ⟨g, cap, cur, hv, _⟩
                · exact ⟨none, 0, by rw [hv, h0]⟩
                · exact ⟨_, cap, hv⟩
              go_wp2
              refine bodyPost_ret (v := .tuple #[.slice A ts.length cap, .int .i64 0, .int .i64 0]) (by simp [results, Tryz.results14, go_sem]) rfl ?_
              rw [HF.out]
              exact ⟨_, rfl, hown.sl, hb⟩
            | false =>
              have hO := HONE.out p d wr hlt
              have hok := fun k t q d2 h => @oneT_ok s.data.toList p d k q d2 t HV.out HL.out h
              have hbad := fun er h => @oneT_bad s.data.toList p d er HV.out HL.out h
              obtain ⟨r, hr⟩ : ∃ r, oneT s.data.toList p d = r := ⟨_, rfl⟩
              rw [hr] at hO
              have HR := hid hr
              have HBAD := hid hbad
              have HOK := hid hok
              clear hr hbad hok
              cases r with
              | bad er =>
                have her := HBAD.out er HR.out
                have he0 : ((er : Int) == 0) = false := by rw [beq_eq_false_iff_ne]; omega
                have HF := hid (show readT s.data.toList = ([], p, er) by rw [HI.out, toksT_bad HV.out HL.out HB2.out HBN.out HR.out]; rfl)
                clear HI her
                go_wp2_with fail
                refine hO.mono ?_
                rintro e w3 ⟨⟨x, z, y, rfl⟩, hb4⟩
                have hb5 := hb.trans (hb4.mono hb.size)
                clear hO hb4 hb
                go_wp2
                refine bodyPost_ret (v := .tuple #[.slice none 0 0, .int .i64 p, .int .i64 er]) (by simp [results, Tryz.results14, go_sem]) rfl ?_
                rw [HF.out]
                exact ⟨.slice none 0 0, rfl, TokSl.nil _, hb5.alloc hb5.size _⟩
              | ok k t q d2 =>
                obtain ⟨o1, o2, o3, o4, o5, o6, o7, o8⟩ := HOK.out k t q d2 HR.out
                rw [HLEN.out] at o2
                have HF := hid (show readT s.data.toList = foldT (toksT s.data.toList q d2) (ts ++ [⟨k, t, p⟩]) by rw [HI.out, toksT_ok HV.out HL.out HB2.out HBN.out HR.out]; rfl)
                clear HI HOK HBAD HR
                go_wp2_with fail
                refine hO.mono ?_
                rintro e w3 ⟨rfl, hb4⟩
                have hb5 := hb.trans (hb4.mono hb.size)
                have hown1 := hown.below hb4
                clear hO hb4 hb hown o3 o4 o5 o7 o8
                have hk5 : (k = 8 ∧ d2 = d + 1) ∨ (k = 10 ∧ d2 = d + 1) ∨ (k = 9 ∧ d = d2 + 1) ∨ (k = 11 ∧ d = d2 + 1) ∨ (k ≠ 8 ∧ k ≠ 10 ∧ k ≠ 9 ∧ k ≠ 11 ∧ d2 = d) := by omega
                clear o6
                have hts2 : ts.length ≤ 100000 := by omega
                rcases hk5 with ⟨rfl, rfl⟩ | ⟨rfl, rfl⟩ | ⟨rfl, rfl⟩ | ⟨rfl, rfl⟩ | ⟨k1, k2, k3, k4, rfl⟩
                · go_wp2_with (first
                    | (at_builtin; refine wpList_append_own _ rfl _ _ 22 rfl w.heap.size 33 i0 (.agg #[.int .i64 0, .string ⟨#[]⟩, .int .i64 0]) 3 32 HU.out hi hz0 hz1 hz2 rfl (by decide) _ _ _ rfl ((World.ownsRow.alloc hown1 _).alloc _) ⟨w3.heap.size + 1, 0, none⟩ 1 1 [.int .i64 8, .string ⟨t.toArray⟩, .int .i64 p] rfl rfl ?c1 ?c2 ?c3 ?c4 ?c5 ?_))
                  case c1 =>
                    intro j u hj
                    match j, hj with
                    | 0, hj => simp at hj; subst hj; simp [Addr.add]
                    | 1, hj => simp at hj; subst hj; simp [Addr.add]
                    | 2, hj => simp at hj; subst hj; simp [Addr.add]
                  case c2 => intro u hu; simp at hu; rcases hu with rfl | rfl | rfl <;> rfl
                  case c3 => unfold maxLen; omega
                  case c4 => omega
                  case c5 => have := hb5.size; simp; omega
                  intro v' w4 hown2 hgrow _
                  have hb6 : Below w.heap.size w w4 := ((hb5.alloc hb5.size _).alloc (by have := hb5.size; simp; omega) _).grown hgrow (by have := hb5.size; simp; omega) (fun j hj => (World.ownsRow.lt hown1 j hj).1)
                  have hown3 : OwnT w4 w.heap.size v' (ts ++ [⟨8, t, p⟩]) := by
                    unfold OwnT
                    rw [List.length_append, List.flatMap_append]
                    simpa [tkCells] using hown2
                  clear hown2 hgrow hown1 hb5
                  go_wp2
                  go_roundw
                  case rel => exact ⟨q, d + 1, ts ++ [⟨8, t, p⟩], by omega, rfl, by go_num, by omega, hown3, by simp; omega, hb6, HF⟩
                  case measure => simp [intOf]; omega
                · go_wp2_with (first
                    | (at_builtin; refine wpList_append_own _ rfl _ _ 22 rfl w.heap.size 33 i0 (.agg #[.int .i64 0, .string ⟨#[]⟩, .int .i64 0]) 3 32 HU.out hi hz0 hz1 hz2 rfl (by decide) _ _ _ rfl ((World.ownsRow.alloc hown1 _).alloc _) ⟨w3.heap.size + 1, 0, none⟩ 1 1 [.int .i64 10, .string ⟨t.toArray⟩, .int .i64 p] rfl rfl ?c1 ?c2 ?c3 ?c4 ?c5 ?_))
                  case c1 =>
                    intro j u hj
                    match j, hj with
                    | 0, hj => simp at hj; subst hj; simp [Addr.add]
                    | 1, hj => simp at hj; subst hj; simp [Addr.add]
                    | 2, hj => simp at hj; subst hj; simp [Addr.add]
                  case c2 => intro u hu; simp at hu; rcases hu with rfl | rfl | rfl <;> rfl
                  case c3 => unfold maxLen; omega
                  case c4 => omega
                  case c5 => have := hb5.size; simp; omega
                  intro v' w4 hown2 hgrow _
                  have hb6 : Below w.heap.size w w4 := ((hb5.alloc hb5.size _).alloc (by have := hb5.size; simp; omega) _).grown hgrow (by have := hb5.size; simp; omega) (fun j hj => (World.ownsRow.lt hown1 j hj).1)
                  have hown3 : OwnT w4 w.heap.size v' (ts ++ [⟨10, t, p⟩]) := by
                    unfold OwnT
                    rw [List.length_append, List.flatMap_append]
                    simpa [tkCells] using hown2
                  clear hown2 hgrow hown1 hb5
                  go_wp2
                  go_roundw
                  case rel => exact ⟨q, d + 1, ts ++ [⟨10, t, p⟩], by omega, rfl, by go_num, by omega, hown3, by simp; omega, hb6, HF⟩
                  case measure => simp [intOf]; omega
                · go_wp2_with (first
                    | (at_builtin; refine wpList_append_own _ rfl _ _ 22 rfl w.heap.size 33 i0 (.agg #[.int .i64 0, .string ⟨#[]⟩, .int .i64 0]) 3 32 HU.out hi hz0 hz1 hz2 rfl (by decide) _ _ _ rfl ((World.ownsRow.alloc hown1 _).alloc _) ⟨w3.heap.size + 1, 0, none⟩ 1 1 [.int .i64 9, .string ⟨t.toArray⟩, .int .i64 p] rfl rfl ?c1 ?c2 ?c3 ?c4 ?c5 ?_))
                  case c1 =>
                    intro j u hj
                    match j, hj with
                    | 0, hj => simp at hj; subst hj; simp [Addr.add]
                    | 1, hj => simp at hj; subst hj; simp [Addr.add]
                    | 2, hj => simp at hj; subst hj; simp [Addr.add]
                  case c2 => intro u hu; simp at hu; rcases hu with rfl | rfl | rfl <;> rfl
                  case c3 => unfold maxLen; omega
                  case c4 => omega
                  case c5 => have := hb5.size; simp; omega
                  intro v' w4 hown2 hgrow _
                  have hb6 : Below w.heap.size w w4 := ((hb5.alloc hb5.size _).alloc (by have := hb5.size; simp; omega) _).grown hgrow (by have := hb5.size; simp; omega) (fun j hj => (World.ownsRow.lt hown1 j hj).1)
                  have hown3 : OwnT w4 w.heap.size v' (ts ++ [⟨9, t, p⟩]) := by
                    unfold OwnT
                    rw [List.length_append, List.flatMap_append]
                    simpa [tkCells] using hown2
                  clear hown2 hgrow hown1 hb5
                  go_wp2
                  go_roundw
                  case rel => exact ⟨q, d2, ts ++ [⟨9, t, p⟩], by omega, rfl, by go_num, by omega, hown3, by simp; omega, hb6, HF⟩
                  case measure => simp [intOf]; omega
                · go_wp2_with (first
                    | (at_builtin; refine wpList_append_own _ rfl _ _ 22 rfl w.heap.size 33 i0 (.agg #[.int .i64 0, .string ⟨#[]⟩, .int .i64 0]) 3 32 HU.out hi hz0 hz1 hz2 rfl (by decide) _ _ _ rfl ((World.ownsRow.alloc hown1 _).alloc _) ⟨w3.heap.size + 1, 0, none⟩ 1 1 [.int .i64 11, .string ⟨t.toArray⟩, .int .i64 p] rfl rfl ?c1 ?c2 ?c3 ?c4 ?c5 ?_))
                  case c1 =>
                    intro j u hj
                    match j, hj with
                    | 0, hj => simp at hj; subst hj; simp [Addr.add]
                    | 1, hj => simp at hj; subst hj; simp [Addr.add]
                    | 2, hj => simp at hj; subst hj; simp [Addr.add]
                  case c2 => intro u hu; simp at hu; rcases hu with rfl | rfl | rfl <;> rfl
                  case c3 => unfold maxLen; omega
                  case c4 => omega
                  case c5 => have := hb5.size; simp; omega
                  intro v' w4 hown2 hgrow _
                  have hb6 : Below w.heap.size w w4 := ((hb5.alloc hb5.size _).alloc (by have := hb5.size; simp; omega) _).grown hgrow (by have := hb5.size; simp; omega) (fun j hj => (World.ownsRow.lt hown1 j hj).1)
                  have hown3 : OwnT w4 w.heap.size v' (ts ++ [⟨11, t, p⟩]) := by
                    unfold OwnT
                    rw [List.length_append, List.flatMap_append]
                    simpa [tkCells] using hown2
                  clear hown2 hgrow hown1 hb5
                  go_wp2
                  go_roundw
                  case rel => exact ⟨q, d2, ts ++ [⟨11, t, p⟩], by omega, rfl, by go_num, by omega, hown3, by simp; omega, hb6, HF⟩
                  case measure => simp [intOf]; omega
                · have b1 : ((k : Int) == 8) = false := by rw [beq_eq_false_iff_ne]; omega
                  have b2 : ((k : Int) == 10) = false := by rw [beq_eq_false_iff_ne]; omega
                  have b3 : ((k : Int) == 9) = false := by rw [beq_eq_false_iff_ne]; omega
                  have b4 : ((k : Int) == 11) = false := by rw [beq_eq_false_iff_ne]; omega
                  clear k1 k2 k3 k4
                  go_wp2_with (first
                    | (at_builtin; refine wpList_append_own _ rfl _ _ 22 rfl w.heap.size 33 i0 (.agg #[.int .i64 0, .string ⟨#[]⟩, .int .i64 0]) 3 32 HU.out hi hz0 hz1 hz2 rfl (by decide) _ _ _ rfl ((World.ownsRow.alloc hown1 _).alloc _) ⟨w3.heap.size + 1, 0, none⟩ 1 1 [.int .i64 k, .string ⟨t.toArray⟩, .int .i64 p] rfl rfl ?c1 ?c2 ?c3 ?c4 ?c5 ?_))
                  case c1 =>
                    intro j u hj
                    match j, hj with
                    | 0, hj => simp at hj; subst hj; simp [Addr.add]
                    | 1, hj => simp at hj; subst hj; simp [Addr.add]
                    | 2, hj => simp at hj; subst hj; simp [Addr.add]
                  case c2 => intro u hu; simp at hu; rcases hu with rfl | rfl | rfl <;> rfl
                  case c3 => unfold maxLen; omega
                  case c4 => omega
                  case c5 => have := hb5.size; simp; omega
                  intro v' w4 hown2 hgrow _
                  have hb6 : Below w.heap.size w w4 := ((hb5.alloc hb5.size _).alloc (by have := hb5.size; simp; omega) _).grown hgrow (by have := hb5.size; simp; omega) (fun j hj => (World.ownsRow.lt hown1 j hj).1)
                  have hown3 : OwnT w4 w.heap.size v' (ts ++ [⟨k, t, p⟩]) := by
                    unfold OwnT
                    rw [List.length_append, List.flatMap_append]
                    simpa [tkCells] using hown2
                  clear hown2 hgrow hown1 hb5
                  go_wp2
                  go_roundw
                  case rel => exact ⟨q, d2, ts ++ [⟨k, t, p⟩], by omega, rfl, by rfl, by omega, hown3, by simp; omega, hb6, HF⟩
                  case measure => simp [intOf]; omega
        · have hge : ¬ (p : Int) < (s.size : Int) := by omega
          have HF := hid (show readT s.data.toList = (ts, 0, 0) by rw [HI.out, toksT_end _ (by rw [HLEN.out]; omega)]; rfl)
          clear HI
          obtain ⟨A, cap, rfl⟩ : ∃ A cap, u5 = .slice A ts.length cap := by
            rcases hown.2 with ⟨hv, h0⟩ | ⟨g, cap, cur, hv, _⟩
            · exact ⟨none, 0, by rw [hv, h0]⟩
            · exact ⟨_, cap, hv⟩
          go_wp2
          refine bodyPost_ret (v := .tuple #[.slice A ts.length cap, .int .i64 0, .int .i64 0]) (by simp [results, Tryz.results14, go_sem]) rfl ?_
          rw [HF.out]
          exact ⟨_, rfl, hown.sl, hb⟩
end Go.Proofs.YtghelkkndkbejaaGreatDoor

