import Derived.Test.YtkdhaipjfkalfaaGreatDoorLgb
/- What is proved: the walk of ScalSame: it returns true at every list of scalars. -/
namespace Go.Proofs.YtkdhaipjfkalfaaGreatDoor
open Go Go.RowKit Go.Lib Go.Sort
set_option linter.unusedSimpArgs false
set_option linter.unusedVariables false

theorem count_step (x : Sc) (l : List Sc) (k : Nat) (h : k < l.length) : (l.take (k + 1)).count x = (l.take k).count x + if l.getD k sc0 = x then 1 else 0 := by
  rw [List.take_succ_eq_append_getElem h, List.count_append, get_scT h, List.count_singleton]
  by_cases e : l.getD k sc0 = x
  · simp [e]
  · simp [e]
theorem sorted_at {l : List Sc} (h : l.Pairwise (fun x y => cmpSc x y ≤ 0)) (j : Nat) (hj : j + 1 < l.length) : cmpSc (l.getD j sc0) (l.getD (j + 1) sc0) ≤ 0 := by
  have := List.pairwise_iff_getElem.1 h j (j + 1) (by omega) hj (by omega)
  rwa [get_scT (show j < l.length by omega), get_scT hj] at this

set_option maxRecDepth 100000 in
set_option maxHeartbeats 16000000 in
theorem ScalSame_any (v : Value) (xs : List Sc) (w : World) (hx : ScIn w v xs) (hT : Tabs w) :
    Calls Tryz.prog 7 #[v] w fun e w' => e = .returned (.bool true) ∧ Below w.heap.size w w' := by
  have hF := fun wx (hb : Below w.heap.size w wx) => Few_any v xs wx (hx.below hb)
  have hl := few_len xs
  unfold FewPost at hF
  obtain ⟨fs, hfs⟩ : ∃ fs, fewS xs = fs := ⟨_, rfl⟩
  rw [hfs] at hF hl
  obtain ⟨A, ca, rfl, -⟩ := hx
  have hSH := shown_any w hT
  clear hfs hT
  go_enter Tryz.func7, Tryz.ntmps7
  go_wp2_with fail
  refine hSH.mono ?_
  rintro e w1 ⟨rfl, hs⟩
  clear hSH
  go_wp2_with fail
  refine (hF _ hs).mono ?_
  rintro e w2 ⟨u, rfl, hu, hb⟩
  have hu := hu.sl
  replace hs := below_step hs hb
  clear hF hb
  go_wp2_with fail
  refine (sort_any u fs w2 hu (by omega)).mono ?_
  rintro e W0 ⟨v3, rfl, hv3, hb⟩
  replace hs := below_step hs hb
  replace hu := hu.below hb
  clear hb
  have hss := sortL_sorted good_Sc fs
  have hpm := sortL_perm cmpSc fs
  have hid2 := sortL_idem good_Sc fs
  have hll := length_sortL cmpSc fs
  obtain ⟨ms, hms⟩ : ∃ ms, sortL cmpSc fs = ms := ⟨_, rfl⟩
  rw [hms] at hv3 hss hpm hid2 hll
  have H0 := hid (And.intro hu (And.intro hv3 hs))
  obtain ⟨A1, c1, rfl, hA1⟩ := hu
  obtain ⟨A3, c3, rfl, hA3⟩ := hv3
  obtain ⟨n, hn⟩ : ∃ n, fs.length = n := ⟨_, rfl⟩
  rw [hn] at hl hll hA1 ⊢
  rw [hll] at hA3 ⊢
  have HN := hid (And.intro hn hll)
  have HA := hid hA1
  have HM := hid hA3
  have HS := hid hss
  have HP := hid hpm
  have HI := hid hid2
  clear hms hn hll hA1 hA3 hss hpm hid2 hs
  go_wp2
  go_loopw [5] (fun i wr => ∃ j : Nat, j ≤ n ∧ i = .int .i64 ((j : Int) + 1) ∧ Below W0.heap.size W0 wr) (fun i _ => n + 1 - (intOf i).toNat)
  case atStart => exact ⟨0, by omega, rfl, Below.refl _ _⟩
  case round =>
    obtain ⟨j, hj, rfl, hb⟩ := hrel
    by_cases hlt : j + 1 < n
    · obtain ⟨b, o, rfl, hbl, a0, a1, a2⟩ := HM.out j (by omega)
      obtain ⟨b', o', hA2, _, d0, d1, d2⟩ := HM.out (j + 1) hlt
      obtain ⟨rfl, rfl⟩ : b = b' ∧ o = o' := by injection hA2 with h; injection h with h1 h2; exact ⟨h1, h2⟩
      have hcm := sorted_at HS.out j (by rw [HN.out.2]; exact hlt)
      obtain ⟨⟨k1, p1, s1⟩, hx⟩ : ∃ x, ms.getD j sc0 = x := ⟨_, rfl⟩
      obtain ⟨⟨k2, p2, s2⟩, hy⟩ : ∃ x, ms.getD (j + 1) sc0 = x := ⟨_, rfl⟩
      rw [hx] at a0 a1 a2 hcm
      rw [hy] at d0 d1 d2 hcm
      have hC : ∀ wx, Calls Tryz.prog 18 #[.agg #[.int .i64 k1, .int .i64 p1, .string s1], .agg #[.int .i64 k2, .int .i64 p2, .string s2]] wx fun e w' => e = .returned (.int .i64 (cmpSc ⟨k1, p1, s1⟩ ⟨k2, p2, s2⟩)) ∧ Below wx.heap.size wx w' := fun wx => (compare_any ⟨k1, p1, s1⟩ ⟨k2, p2, s2⟩ wx).mono fun e w' h => ⟨h.1, h.2.below⟩
      obtain ⟨c, hc⟩ : ∃ c, cmpSc ⟨k1, p1, s1⟩ ⟨k2, p2, s2⟩ = c := ⟨_, rfl⟩
      rw [hc] at hC hcm
      have HC := hid hC
      have hjki : (j : Int) + 1 < (n : Int) := by omega
      have hj0 : (0 : Int) ≤ (j : Int) := by omega
      have hji : (j : Int) < (n : Int) := by omega
      have hw1 : IntKind.i64.wrap ((j : Int) + 1 - 1) = (j : Int) := by rw [show (j : Int) + 1 - 1 = (j : Int) by omega]; exact IntWalk.i64_in _ (by omega)
      have hw2 : ((j : Int) + 1).toNat = j + 1 := by omega
      have hw3 : IntKind.i64.wrap (j : Int) = (j : Int) := IntWalk.i64_in _ (by omega)
      have hj1 : (0 : Int) ≤ (j : Int) + 1 := by omega
      have hc0 : ¬ 0 < c := by omega
      have KEEP := hid (fun X (hX : HB2 W0 W0 X) => And.intro (cell_below a0 hX.2) (And.intro (cell_below a1 hX.2) (And.intro (cell_below a2 hX.2) (And.intro (cell_below d0 hX.2) (And.intro (cell_below d1 hX.2) (cell_below d2 hX.2))))))
      have hh0 : HB2 W0 W0 wr := ⟨hb, hb⟩
      have hh1 : HB2 W0 W0 wr.drew := hh0.drew
      clear hC hc hx hy hA2 a0 a1 a2 d0 d1 d2 hb hbl
      go_wp2
      go_region_held3 (fun w' => w'.cell? ⟨b, o + j * 3, none⟩ = some (.int .i64 k1) ∧ w'.cell? ⟨b, o + j * 3 + 1, none⟩ = some (.int .i64 p1) ∧ w'.cell? ⟨b, o + j * 3 + 2, none⟩ = some (.string s1) ∧ w'.cell? ⟨b, o + (j + 1) * 3, none⟩ = some (.int .i64 k2) ∧ w'.cell? ⟨b, o + (j + 1) * 3 + 1, none⟩ = some (.int .i64 p2) ∧ w'.cell? ⟨b, o + (j + 1) * 3 + 2, none⟩ = some (.string s2)) (exact KEEP.out _ (by assumption))
        (first | (go_at_call 18; refine (HC.out _).mono ?_; rintro e wz ⟨rfl, hbz⟩; have hhz : HB2 W0 W0 wz := HB2.step (by assumption) hbz))
      obtain ⟨hbz, _⟩ : HB2 W0 W0 wz := by assumption
      have HZ := hid hbz
      clear hh0 hh1 hbz
      simp only [Exit.then]
      go_wp2
      go_roundw
      case rel => exact ⟨j + 1, by omega, by go_num, HZ.out⟩
      case measure => simp [intOf]; omega
    · have hjki : ¬ (j : Int) + 1 < (n : Int) := by omega
      have hj0 : (0 : Int) ≤ (j : Int) := by omega
      have HB0 := hid hb
      clear hb hlt
      obtain ⟨W2, rfl⟩ : ∃ W2, W2 = wr := ⟨wr, rfl⟩
      go_wp2
      go_loopw [6] (fun i wr => ∃ k : Nat, k ≤ n ∧ i = .int .i64 k ∧ Below W0.heap.size W0 wr) (fun i _ => n - (intOf i).toNat)
      case atStart => exact ⟨0, by omega, rfl, HB0.out⟩
      case round =>
        obtain ⟨k, hk, rfl, hb⟩ := hrel
        by_cases hlt : k < n
        · obtain ⟨b, o, hAe, hbl, a0, a1, a2⟩ := HA.out k hlt
          obtain ⟨⟨k1, p1, s1⟩, hx⟩ : ∃ x, fs.getD k sc0 = x := ⟨_, rfl⟩
          rw [hx] at a0 a1 a2
          have hki : (k : Int) < (n : Int) := by omega
          have HCx := hid (fun X (hX : Below W0.heap.size W0 X) => And.intro (cell_below a0 hX) (And.intro (cell_below a1 hX) (cell_below a2 hX)))
          have HB1 := hid hb
          clear a0 a1 a2 hx hb
          subst hAe
          go_wp2
          go_loopw [7, 8] (fun m i wr => ∃ j : Nat, j ≤ n ∧ i = .int .i64 j ∧ m = .int .i64 ((fs.take j).count (⟨k1, p1, s1⟩ : Sc) : Int) ∧ Below W0.heap.size W0 wr) (fun _ i _ => n - (intOf i).toNat)
          case atStart => exact ⟨0, by omega, rfl, rfl, HB1.out⟩
          case round =>
            obtain ⟨j, hj, rfl, rfl, hb⟩ := hrel
            have hcj : ((fs.take j).count (⟨k1, p1, s1⟩ : Sc)) ≤ 30 := by have := List.count_le_length (l := fs.take j) (a := (⟨k1, p1, s1⟩ : Sc)); rw [List.length_take] at this; omega
            by_cases hjn : j < n
            · obtain ⟨b', o', hA2, _, d0, d1, d2⟩ := HA.out j hjn
              obtain ⟨rfl, rfl⟩ : b = b' ∧ o = o' := by injection hA2 with h; injection h with h1 h2; exact ⟨h1, h2⟩
              have HST := hid (count_step ⟨k1, p1, s1⟩ fs j (by rw [HN.out.1]; exact hjn))
              obtain ⟨⟨k2, p2, s2⟩, hy⟩ : ∃ x, fs.getD j sc0 = x := ⟨_, rfl⟩
              rw [hy] at d0 d1 d2 HST
              replace d0 := cell_below d0 hb
              replace d1 := cell_below d1 hb
              replace d2 := cell_below d2 hb
              obtain ⟨a0, a1, a2⟩ := HCx.out wr hb
              obtain ⟨bb, hbb⟩ : ∃ bb, ((k2 : Int) == (k1 : Int) && ((p2 : Int) == (p1 : Int) && s2.toList == s1.toList)) = bb := ⟨_, rfl⟩
              have hE := fun wx => eql_sc k2 p2 k1 p1 s2 s1 wx
              rw [hbb] at hE
              have HB := hid (show decide ((⟨k2, p2, s2⟩ : Sc) = ⟨k1, p1, s1⟩) = bb from (sc_eq ⟨k2, p2, s2⟩ ⟨k1, p1, s1⟩).symm.trans hbb)
              have hjni : (j : Int) < (n : Int) := by omega
              obtain ⟨q, hq⟩ : ∃ q, (fs.take j).count (⟨k1, p1, s1⟩ : Sc) = q := ⟨_, rfl⟩
              rw [hq] at hcj HST ⊢
              have HBB := hid hb
              clear hbb hy hA2 hq hb
              go_wp2
              go_quiet (fail)
              have HB3 := hid (below_drewN (n := nq) HBB.out)
              generalize wr.drewN nq = wq at HB3 ⊢
              cases bb with
              | true =>
                have HST' := hid (HST.out.trans (by rw [if_pos (of_decide_eq_true HB.out)]))
                clear a0 a1 a2 d0 d1 d2
                go_wp2
                go_roundw
                case rel => exact ⟨j + 1, by omega, by go_num, by rw [HST'.out]; go_num, HB3.out⟩
                case measure => simp [intOf]; omega
              | false =>
                have HST' := hid (HST.out.trans (by rw [if_neg (of_decide_eq_false HB.out)]))
                clear a0 a1 a2 d0 d1 d2
                go_wp2
                go_roundw
                case rel => exact ⟨j + 1, by omega, by go_num, by rw [HST'.out, Nat.add_zero], HB3.out⟩
                case measure => simp [intOf]; omega
            · have hjni : ¬ (j : Int) < (n : Int) := by omega
              have HTK := hid (show fs.take j = fs from List.take_of_length_le (by rw [HN.out.1]; omega))
              rw [HTK.out] at hcj ⊢
              obtain ⟨q, hq⟩ : ∃ q, fs.count (⟨k1, p1, s1⟩ : Sc) = q := ⟨_, rfl⟩
              have HQ := hid hq
              rw [hq] at hcj ⊢
              have HB2' := hid hb
              clear hq hb hjn
              obtain ⟨W4, rfl⟩ : ∃ W4, W4 = wr := ⟨wr, rfl⟩
              go_wp2
              go_loopw [7, 9] (fun m i wr => ∃ j : Nat, j ≤ n ∧ i = .int .i64 j ∧ m = .int .i64 ((q : Int) - ((ms.take j).count (⟨k1, p1, s1⟩ : Sc) : Int)) ∧ Below W0.heap.size W0 wr) (fun _ i _ => n - (intOf i).toNat)
              case atStart => exact ⟨0, by omega, rfl, by simp, HB2'.out⟩
              case round =>
                obtain ⟨j2, hj2, rfl, rfl, hb⟩ := hrel
                have hcj2 : ((ms.take j2).count (⟨k1, p1, s1⟩ : Sc)) ≤ 30 := by have := List.count_le_length (l := ms.take j2) (a := (⟨k1, p1, s1⟩ : Sc)); rw [List.length_take] at this; omega
                by_cases hjn2 : j2 < n
                · obtain ⟨b3, o3, hA3e, _, d0, d1, d2⟩ := HM.out j2 hjn2
                  have HST := hid (count_step ⟨k1, p1, s1⟩ ms j2 (by rw [HN.out.2]; exact hjn2))
                  obtain ⟨⟨k2, p2, s2⟩, hy⟩ : ∃ x, ms.getD j2 sc0 = x := ⟨_, rfl⟩
                  rw [hy] at d0 d1 d2 HST
                  replace d0 := cell_below d0 hb
                  replace d1 := cell_below d1 hb
                  replace d2 := cell_below d2 hb
                  subst hA3e
                  obtain ⟨a0, a1, a2⟩ := HCx.out wr hb
                  obtain ⟨bb, hbb⟩ : ∃ bb, ((k2 : Int) == (k1 : Int) && ((p2 : Int) == (p1 : Int) && s2.toList == s1.toList)) = bb := ⟨_, rfl⟩
                  have hE := fun wx => eql_sc k2 p2 k1 p1 s2 s1 wx
                  rw [hbb] at hE
                  have HB := hid (show decide ((⟨k2, p2, s2⟩ : Sc) = ⟨k1, p1, s1⟩) = bb from (sc_eq ⟨k2, p2, s2⟩ ⟨k1, p1, s1⟩).symm.trans hbb)
                  have hjni2 : (j2 : Int) < (n : Int) := by omega
                  obtain ⟨r, hr⟩ : ∃ r, (ms.take j2).count (⟨k1, p1, s1⟩ : Sc) = r := ⟨_, rfl⟩
                  rw [hr] at hcj2 HST ⊢
                  have HBB := hid hb
                  clear hbb hy hr hb
                  go_wp2
                  go_quiet (fail)
                  have HB3 := hid (below_drewN (n := nq) HBB.out)
                  generalize wr.drewN nq = wq at HB3 ⊢
                  cases bb with
                  | true =>
                    have HST' := hid (HST.out.trans (by rw [if_pos (of_decide_eq_true HB.out)]))
                    clear a0 a1 a2 d0 d1 d2
                    go_wp2
                    go_roundw
                    case rel => exact ⟨j2 + 1, by omega, by go_num, by rw [HST'.out]; go_num, HB3.out⟩
                    case measure => simp [intOf]; omega
                  | false =>
                    have HST' := hid (HST.out.trans (by rw [if_neg (of_decide_eq_false HB.out)]))
                    clear a0 a1 a2 d0 d1 d2
                    go_wp2
                    go_roundw
                    case rel => exact ⟨j2 + 1, by omega, by go_num, by rw [HST'.out, Nat.add_zero], HB3.out⟩
                    case measure => simp [intOf]; omega
                · have hjni2 : ¬ (j2 : Int) < (n : Int) := by omega
                  have hzero : (q : Int) - ((ms.take j2).count (⟨k1, p1, s1⟩ : Sc) : Int) = 0 := by
                    rw [List.take_of_length_le (show ms.length ≤ j2 by rw [HN.out.2]; omega), HP.out.count_eq, HQ.out]; omega
                  rw [hzero]
                  have HBB := hid hb
                  clear hzero hb hjn2 hcj2
                  go_wp2
                  go_roundw
                  case rel => exact ⟨k + 1, by omega, by go_num, HBB.out⟩
                  case measure => simp [intOf]; omega
        · have hki : ¬ (k : Int) < (n : Int) := by omega
          have HB2' := hid hb
          have hm3 := H0.out.2.1.below hb
          rw [HN.out.2] at hm3
          have hSo := sort_any _ ms wr hm3 (by rw [HN.out.2]; omega)
          unfold SortPost at hSo
          rw [HI.out] at hSo
          have HSO := hid hSo
          have HM3 := hid hm3
          clear hSo hm3 hb hlt
          go_wp2_with fail
          refine Calls.mono HSO.out ?_
          rintro e w8 ⟨v8, rfl, hv8, hb8⟩
          have hm4 := HM3.out.below hb8
          have hb9 := below_step H0.out.2.2 (HB2'.out.trans (hb8.mono HB2'.out.size))
          go_wp2_with fail
          refine (refSame06_any v8 _ ms ms w8 hv8 hm4 (by rw [HN.out.2]; omega) (by rw [HN.out.2]; omega)).mono ?_
          rw [decide_eq_true (rfl : ms = ms)]
          rintro e w9 ⟨rfl, hb10⟩
          have HF := hid (below_step hb9 hb10)
          clear hv8 hm4 hb8 hb9 hb10
          go_wp2
          go_ret
          exact ⟨rfl, HF.out⟩
end Go.Proofs.YtkdhaipjfkalfaaGreatDoor
