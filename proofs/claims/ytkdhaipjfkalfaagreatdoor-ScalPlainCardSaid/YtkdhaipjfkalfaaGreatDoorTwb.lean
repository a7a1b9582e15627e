import Derived.Test.YtkdhaipjfkalfaaGreatDoorSo
import Derived.Test.YtkdhaipjfkalfaaGreatDoorSd
import Derived.Deep.RegionHeld3
import Derived.Deep.DrawnRows
import Derived.Deep.AppendLies
/- What is proved: the reference for layer 6: Sort: the list in order. -/
namespace Go.Proofs.YtkdhaipjfkalfaaGreatDoor
open Go Go.RowKit Go.Lib Go.Sort
set_option linter.unusedSimpArgs false
set_option linter.unusedVariables false

theorem OwnS.mono {w : World} {B B' : Nat} {v : Value} {ts : List Sc} (h : OwnS w B v ts) (hb : B' ≤ B) : OwnS w B' v ts :=
  ⟨h.1, h.2.imp id (fun ⟨g, cap, cur, hv, hg, hr⟩ => ⟨g, cap, cur, hv, Nat.le_trans hb hg, hr⟩)⟩
theorem OwnS.below {w w' : World} {B : Nat} {v : Value} {ts : List Sc} (h : OwnS w B v ts) (hb : Below w.heap.size w w') : OwnS w' B v ts :=
  h.keep fun j c hj => heap_below hj hb
theorem OwnS.shape {w : World} {B : Nat} {v : Value} {ts : List Sc} (h : OwnS w B v ts) : ∃ A cap, v = .slice A ts.length cap := by
  rcases h.2 with ⟨hv, h0⟩ | ⟨g, cap, cur, hv, _⟩
  · exact ⟨none, 0, by rw [hv, h0]⟩
  · exact ⟨_, cap, hv⟩
def IsSl (v : Value) (n : Nat) : Prop := ∃ A cap, v = .slice A n cap
/-- One scalar is laid behind a row of the call's own. -/
theorem wpList_append_sc {ops : Array Oper} {rest : List Oper} {o : Oper} {a : Act} {Q : Exit → Act → World → Prop} (hgd : o.guard = none) (s x : Operand)
    (ho : o.op = .call { callee := .builtin .append, args := #[s, x], argTypes := #[34, 34] }) (B : Nat) (v : Value) (ts : List Sc) (y : Sc) (w : World)
    (hs : a.eval s = v) (hx : a.eval x = .slice (some ⟨w.heap.size, 0, none⟩) 1 1) (hown : OwnS w B v ts) (hB : B ≤ w.heap.size) (hl : ts.length ≤ 1000000)
    (h : ∀ v' w', OwnS w' B v' (ts ++ [y]) → Below B w w' → w.heap.size < w'.heap.size → IsSl v' (ts.length + 1) → wpList Tryz.prog ops Q rest (a.put o.dst v') w') :
    wpList Tryz.prog ops Q (o :: rest) a (w.alloc (.cells #[.int .i64 y.kind, .int .i64 y.num, .string y.str] 23)) := by
  obtain ⟨i0, hi, hz1, hz2, hz3⟩ := info_parts info_sc
  have hown0 : w.ownsRow B 23 3 v ts.length (ts.flatMap scCells) := hown
  refine wpList_append_own _ hgd s x 34 ho B 23 i0 (.agg #[.int .i64 0, .int .i64 0, .string ⟨#[]⟩]) 3 32 Tryz.underlying34 hi hz1 hz2 hz3 rfl (by decide) v ts.length _ hs (hown0.alloc _) ⟨w.heap.size, 0, none⟩ 1 1 (scCells y) hx rfl
    (World.news_of_block (heap_alloc_new w _)) (by intro u hu; simp [scCells] at hu; rcases hu with rfl | rfl | rfl <;> rfl) (by unfold maxLen; omega) (by omega) (by simp; omega) ?_
  intro v' w' h1 h2 h3
  have hown' : OwnS w' B v' (ts ++ [y]) := by
    unfold OwnS
    rw [List.length_append, List.flatMap_append]
    simpa using h1
  obtain ⟨A, cap, hv⟩ := hown'.shape
  refine h v' w' hown' (((Below.refl B w).alloc hB _).grown h2 (by simp; omega) (fun j hj => (own_rowS hown hj).1)) ?_ ⟨A, cap, by rw [hv]; simp⟩
  have := h2.size
  simp at this; omega

theorem get_scT {ts : List Sc} {k : Nat} (h : k < ts.length) : ts[k] = ts.getD k sc0 := by simp [List.getD, List.getElem?_eq_getElem h]
/-- What stood lies as it lay: at the call, and at the round's head. -/
def HB2 (w W0 X : World) : Prop := Below w.heap.size w X ∧ Below W0.heap.size W0 X
def HB3 (w W0 : World) (v : Value) (ts : List Sc) (X : World) : Prop := HB2 w W0 X ∧ OwnS X W0.heap.size v ts
def insP (x : Sc) (L : List Sc) (j : Nat) : List Sc × Bool := (L.take j).foldl (insStep cmpSc x) ([], false)
theorem insP_succ (x : Sc) (L : List Sc) (j : Nat) (h : j < L.length) : insP x L (j + 1) = insStep cmpSc x (insP x L j) (L.getD j sc0) := by
  unfold insP
  rw [fold_take _ _ _ _ h, get_scT h]
theorem insP_len (x : Sc) (L : List Sc) : ∀ j, j ≤ L.length → (insP x L j).1.length ≤ j + 1 ∧ ((insP x L j).2 = false → (insP x L j).1.length ≤ j)
  | 0, _ => ⟨by simp [insP], fun _ => by simp [insP]⟩
  | j + 1, h => by
    obtain ⟨h1, h2⟩ := insP_len x L j (by omega)
    rw [insP_succ x L j (by omega)]
    unfold insStep
    split
    · rename_i hc
      have := h2 hc.1
      refine ⟨by simp; omega, fun hh => by cases hh⟩
    · refine ⟨by simp; omega, fun hh => ?_⟩
      have := h2 hh
      simp; omega
theorem insP_end (x : Sc) (L : List Sc) : insEnd x (insP x L L.length) = insL cmpSc x L := by
  unfold insP
  rw [List.take_length, ins_fold]; rfl

set_option maxRecDepth 100000 in
set_option maxHeartbeats 8000000 in
theorem refSort_any (v : Value) (ts : List Sc) (w : World) (hv : ScIn w v ts) (hl : ts.length ≤ 100000) :
    Calls Tryz.prog 23 #[v] w (SortPost ts w) := by
  obtain ⟨A, cap, rfl, hA⟩ := hv
  obtain ⟨n, hn⟩ : ∃ n, ts.length = n := ⟨_, rfl⟩
  rw [hn] at hA hl ⊢
  have HN := hid hn
  have HA := hid hA
  clear hn hA
  go_enter Tryz.func23, Tryz.ntmps23
  go_wp2
  go_loopw [3, 4] (fun o i wr => ∃ (k : Nat) (L : List Sc), k ≤ n ∧ i = .int .i64 k ∧ OwnS wr w.heap.size o L ∧ Below w.heap.size w wr ∧ L.length = k ∧ Hid (L = (ts.take k).foldl (fun out x => insL cmpSc x out) [])) (fun _ i _ => n - (intOf i).toNat)
  case atStart => exact ⟨0, [], by omega, rfl, World.ownsRow_nil _ _ _ _, Below.refl _ _, rfl, hid rfl⟩
  case round =>
    obtain ⟨k, L, hk, rfl, hO, hb, hLk, HL⟩ := hrel
    obtain ⟨W0, rfl⟩ : ∃ W0, W0 = wr := ⟨wr, rfl⟩
    by_cases hlt : k < n
    · obtain ⟨ba, oa, rfl, hba, a0, a1, a2⟩ := HA.out k hlt
      obtain ⟨⟨k1, p1, s1⟩, hx⟩ : ∃ x, ts.getD k sc0 = x := ⟨_, rfl⟩
      rw [hx] at a0 a1 a2
      have HX := hid hx
      clear hx
      have hki : (k : Int) < (n : Int) := by omega
      obtain ⟨A2, c2, hA2, hLc⟩ := hO.sl
      subst hA2
      have HLC := hid hLc
      have HLK := hid hLk
      rw [hLk]
      have hbase : w.heap.size ≤ W0.heap.size := hb.size
      have HO := hid hO
      clear hLc hO hLk
      have HAc := hid (fun X (hX : Below w.heap.size w X) => And.intro (cell_below a0 hX) (And.intro (cell_below a1 hX) (cell_below a2 hX)))
      have HBW := hid hb
      clear a0 a1 a2 hb
      go_wp2
      go_loopw [5, 6, 7] (fun o d i wr => ∃ j : Nat, j ≤ k ∧ i = .int .i64 j ∧ d = .bool (insP ⟨k1, p1, s1⟩ L j).2 ∧ OwnS wr W0.heap.size o (insP ⟨k1, p1, s1⟩ L j).1 ∧ Below W0.heap.size W0 wr) (fun _ _ i _ => k - (intOf i).toNat)
      case atStart => exact ⟨0, by omega, rfl, rfl, World.ownsRow_nil _ _ _ _, Below.refl _ _⟩
      case round =>
        obtain ⟨j, hj, rfl, rfl, hN, hbx⟩ := hrel
        have hlen := insP_len ⟨k1, p1, s1⟩ L j (by rw [HLK.out]; exact hj)
        by_cases hjk : j < k
        · obtain ⟨bo, oo, hA2, hbo, b0, b1, b2⟩ := HLC.out j (by rw [HLK.out]; exact hjk)
          subst hA2
          obtain ⟨⟨k2, p2, s2⟩, hy⟩ : ∃ x, L.getD j sc0 = x := ⟨_, rfl⟩
          rw [hy] at b0 b1 b2
          have HS := hid (insP_succ ⟨k1, p1, s1⟩ L j (by rw [HLK.out]; exact hjk))
          rw [hy] at HS
          have HLc := hid (fun X (hX : Below W0.heap.size W0 X) => And.intro (cell_below b0 hX) (And.intro (cell_below b1 hX) (cell_below b2 hX)))
          have hjki : (j : Int) < (k : Int) := by omega
          have hjni : (j : Int) < (n : Int) := by omega
          obtain ⟨⟨next, done⟩, hP⟩ : ∃ P, insP ⟨k1, p1, s1⟩ L j = P := ⟨_, rfl⟩
          rw [hP] at hN hlen HS ⊢
          simp only at hN hlen ⊢
          obtain ⟨A3, c3, rfl⟩ := hN.shape
          have HNX := hid hN
          have hnl : next.length ≤ 100001 := by have := hlen.1; omega
          have hwx : Below w.heap.size w wr := HBW.out.trans (hbx.mono HBW.out.size)
          have hsx : W0.heap.size ≤ wr.heap.size := hbx.size
          have HBX := hid (And.intro hwx hbx)
          have HNL := hid (show done = false → next.length ≤ 100000 from fun h => by have := hlen.2 h; omega)
          clear hy b0 b1 b2 hP hN hlen hwx
          cases done with
          | true =>
            have HQ := hid (show HB2 w W0 (wr.drewN 0) ∧ True from ⟨HBX.out, trivial⟩)
            have HS' := hid (show insP ⟨k1, p1, s1⟩ L (j + 1) = (next ++ [⟨k2, p2, s2⟩], true) from HS.out.trans (if_neg (fun h => by cases h.1)))
            clear HQ
            go_wp2
            go_quiet (fail)
            have HQ := hid (And.intro (below_drewN (n := nq) HBX.out.1) (And.intro (below_drewN (n := nq) HBX.out.2) (show OwnS (wr.drewN nq) W0.heap.size (.slice A3 next.length c3) next from HNX.out)))
            generalize wr.drewN nq = wq at HQ ⊢
            have hsq : W0.heap.size ≤ wq.heap.size := HQ.out.2.1.size
            obtain ⟨y0, y1, y2⟩ := HLc.out wq HQ.out.2.1
            go_wp2_with (at_builtin; go_must (refine wpList_append_sc rfl _ _ rfl W0.heap.size (.slice A3 next.length c3) next ⟨k2, p2, s2⟩ wq (by rfl) (by rfl) HQ.out.2.2 (by omega) (by omega) ?_))
            rintro v5 w5 hown5 hb5 hlt5 ⟨A5, c5, rfl⟩
            have HF := hid (And.intro hown5 (HQ.out.2.1.trans hb5))
            clear hown5 hb5 y0 y1 y2
            go_wp2
            go_roundw
            case rel => exact ⟨j + 1, by omega, by go_num, by rw [HS'.out], by rw [HS'.out]; simpa using HF.out.1, HF.out.2⟩
            case measure => simp [intOf]; omega
          | false =>
            have hC : ∀ wx, Calls Tryz.prog 19 #[.agg #[.int .i64 k1, .int .i64 p1, .string s1], .agg #[.int .i64 k2, .int .i64 p2, .string s2]] wx fun e w' => e = .returned (.int .i64 (cmpSc ⟨k1, p1, s1⟩ ⟨k2, p2, s2⟩)) ∧ Below wx.heap.size wx w' := fun wx => refCompare_any ⟨k1, p1, s1⟩ ⟨k2, p2, s2⟩ wx
            obtain ⟨c, hc⟩ : ∃ c, cmpSc ⟨k1, p1, s1⟩ ⟨k2, p2, s2⟩ = c := ⟨_, rfl⟩
            rw [hc] at hC
            have HC := hid hC
            have KEEP := hid (fun X (hX : HB3 w W0 (.slice A3 next.length c3) next X) => And.intro (HAc.out X hX.1.1).1 (And.intro (HAc.out X hX.1.1).2.1 (And.intro (HAc.out X hX.1.1).2.2 (HLc.out X hX.1.2))))
            have hh0 : HB3 w W0 (.slice A3 next.length c3) next wr := ⟨HBX.out, HNX.out⟩
            have hh1 : HB3 w W0 (.slice A3 next.length c3) next wr.drew := ⟨⟨HBX.out.1.drew, HBX.out.2.drew⟩, HNX.out⟩
            have hnl2 : next.length ≤ 100000 := by have := HNL.out rfl; omega
            have HCS := hid (show insP ⟨k1, p1, s1⟩ L (j + 1) = if c < 0 then (next ++ [⟨k1, p1, s1⟩] ++ [⟨k2, p2, s2⟩], true) else (next ++ [⟨k2, p2, s2⟩], false) by
              rw [HS.out]; unfold insStep; rw [hc]; simp)
            have STEP := hid (fun X Y (hX : HB3 w W0 (.slice A3 next.length c3) next X) (hY : Below X.heap.size X Y) => (show HB3 w W0 (.slice A3 next.length c3) next Y from ⟨⟨hX.1.1.trans (hY.mono hX.1.1.size), hX.1.2.trans (hY.mono hX.1.2.size)⟩, hX.2.below hY⟩))
            clear hC hc
            have hdd : (0 : Int) ≤ (k : Int) := by omega
            have hdj : (0 : Int) ≤ (j : Int) := by omega
            go_wp2
            go_region_held3 (fun w' => w'.cell? ⟨ba, oa + k * 3, none⟩ = some (.int .i64 k1) ∧ w'.cell? ⟨ba, oa + k * 3 + 1, none⟩ = some (.int .i64 p1) ∧ w'.cell? ⟨ba, oa + k * 3 + 2, none⟩ = some (.string s1) ∧ w'.cell? ⟨bo, oo + j * 3, none⟩ = some (.int .i64 k2) ∧ w'.cell? ⟨bo, oo + j * 3 + 1, none⟩ = some (.int .i64 p2) ∧ w'.cell? ⟨bo, oo + j * 3 + 2, none⟩ = some (.string s2)) (exact KEEP.out _ (by assumption))
              (first | (go_at_call 19; refine (HC.out _).mono ?_; rintro e wz ⟨rfl, hbz⟩; have hhz : HB3 w W0 (.slice A3 next.length c3) next wz := STEP.out _ _ (by assumption) hbz))
            obtain ⟨hbz2, hoz⟩ : HB3 w W0 (.slice A3 next.length c3) next wz := by assumption
            have HQ := hid (And.intro hbz2 hoz)
            have hsz : W0.heap.size ≤ wz.heap.size := hbz2.2.size
            obtain ⟨x0, x1, x2⟩ := HAc.out wz hbz2.1
            obtain ⟨y0, y1, y2⟩ := HLc.out wz hbz2.2
            clear hh0 hh1
            simp only [Exit.then]
            by_cases hcn : c < 0
            · have HS' := hid (HCS.out.trans (if_pos hcn))
              go_wp2_with (at_builtin; go_must (refine wpList_append_sc rfl _ _ rfl W0.heap.size (.slice A3 next.length c3) next ⟨k1, p1, s1⟩ wz (by rfl) (by rfl) HQ.out.2 (by omega) (by omega) ?_))
              rintro v5 w5 hown5 hb5 hlt5 ⟨A5, c5, rfl⟩
              have hs5 : W0.heap.size ≤ w5.heap.size := by omega
              have hb05 : Below W0.heap.size W0 w5 := HQ.out.1.2.trans hb5
              have HF := hid (And.intro hown5 hb05)
              obtain ⟨z0, z1, z2⟩ := HLc.out w5 hb05
              have hl5 : (next ++ [(⟨k1, p1, s1⟩ : Sc)]).length = next.length + 1 := by simp
              have HL5 := hid hl5
              clear hown5 hb5 hb05 x0 x1 x2 y0 y1 y2 hl5
              have hn5 : (next ++ [(⟨k1, p1, s1⟩ : Sc)]).length ≤ 1000000 := by rw [HL5.out]; omega
              go_wp2_with (at_builtin; go_must (refine wpList_append_sc rfl _ _ rfl W0.heap.size (.slice A5 (next.length + 1) c5) (next ++ [⟨k1, p1, s1⟩]) ⟨k2, p2, s2⟩ w5 (by rfl) (by rfl) HF.out.1 (by omega) hn5 ?_))
              rintro v6 w6 hown6 hb6 hlt6 ⟨A6, c6, rfl⟩
              have HG := hid (And.intro hown6 (HF.out.2.trans hb6))
              clear hown6 hb6 z0 z1 z2 hn5
              go_wp2
              go_roundw
              case rel => exact ⟨j + 1, by omega, by go_num, by rw [HS'.out], by rw [HS'.out]; simpa using HG.out.1, HG.out.2⟩
              case measure => simp [intOf]; omega
            · have HS' := hid (HCS.out.trans (if_neg hcn))
              go_wp2_with (at_builtin; go_must (refine wpList_append_sc rfl _ _ rfl W0.heap.size (.slice A3 next.length c3) next ⟨k2, p2, s2⟩ wz (by rfl) (by rfl) HQ.out.2 (by omega) (by omega) ?_))
              rintro v5 w5 hown5 hb5 hlt5 ⟨A5, c5, rfl⟩
              have HF := hid (And.intro hown5 (HQ.out.1.2.trans hb5))
              clear hown5 hb5 x0 x1 x2 y0 y1 y2
              go_wp2
              go_roundw
              case rel => exact ⟨j + 1, by omega, by go_num, by rw [HS'.out], by rw [HS'.out]; simpa using HF.out.1, HF.out.2⟩
              case measure => simp [intOf]; omega
        · have HJK := hid (show j = k by omega)
          have hjki : ¬ (j : Int) < (k : Int) := by omega
          obtain ⟨⟨next, done⟩, hP⟩ : ∃ P, insP ⟨k1, p1, s1⟩ L j = P := ⟨_, rfl⟩
          have HE := hid (show insL cmpSc ⟨k1, p1, s1⟩ L = insEnd ⟨k1, p1, s1⟩ (next, done) by rw [← hP, HJK.out, ← HLK.out]; exact (insP_end _ _).symm)
          have HT := hid (show (ts.take (k + 1)).foldl (fun out x => insL cmpSc x out) [] = insL cmpSc ⟨k1, p1, s1⟩ L by
            rw [fold_take _ _ _ _ (by rw [HN.out]; exact hlt), ← HL.out, get_scT (by rw [HN.out]; exact hlt), HX.out])
          have HLN := hid (insL_perm cmpSc ⟨k1, p1, s1⟩ L).length_eq
          rw [hP] at hN hlen ⊢
          simp only at hN hlen ⊢
          obtain ⟨A3, c3, rfl⟩ := hN.shape
          have HNX := hid hN
          have hnl : next.length ≤ 100001 := by have := hlen.1; omega
          have hwx : Below w.heap.size w wr := HBW.out.trans (hbx.mono HBW.out.size)
          have hsx : W0.heap.size ≤ wr.heap.size := hbx.size
          have HBX := hid (And.intro hwx hbx)
          obtain ⟨x0, x1, x2⟩ := HAc.out wr hwx
          clear hP hN hlen hwx hbx
          cases done with
          | true =>
            go_wp2
            go_roundw
            case rel => exact ⟨k + 1, insL cmpSc ⟨k1, p1, s1⟩ L, by omega, by go_num, by rw [HE.out]; exact HNX.out.mono hbase, HBX.out.1, by rw [HLN.out]; simp [HLK.out], hid HT.out.symm⟩
            case measure => simp [intOf]; omega
          | false =>
            go_wp2_with (at_builtin; go_must (refine wpList_append_sc rfl _ _ rfl W0.heap.size (.slice A3 next.length c3) next ⟨k1, p1, s1⟩ wr (by rfl) (by rfl) HNX.out (by omega) (by omega) ?_))
            rintro v5 w5 hown5 hb5 hlt5 ⟨A5, c5, rfl⟩
            have HF := hid (And.intro hown5 (HBX.out.1.trans (hb5.mono hbase)))
            clear hown5 hb5 x0 x1 x2
            go_wp2
            go_roundw
            case rel => exact ⟨k + 1, insL cmpSc ⟨k1, p1, s1⟩ L, by omega, by go_num, by rw [HE.out]; exact HF.out.1.mono hbase, HF.out.2, by rw [HLN.out]; simp [HLK.out], hid HT.out.symm⟩
            case measure => simp [intOf]; omega
    · have hkn : k = n := by omega
      have HF := hid (show L = sortL cmpSc ts by
        rw [HL.out, List.take_of_length_le (by rw [HN.out]; omega)]
        exact refSort_eq good_Sc ts)
      have hki : ¬ (k : Int) < (n : Int) := by omega
      obtain ⟨A3, c3, rfl⟩ := hO.shape
      have HO := hid (And.intro hO.sl hb)
      have HLK := hid hLk
      clear hO hb hkn hLk
      go_wp2
      refine bodyPost_ret (v := .slice A3 L.length c3) (by simp [results, Tryz.results23, go_sem]) rfl ?_
      exact ⟨_, rfl, by rw [← HF.out]; exact HO.out.1, HO.out.2⟩
end Go.Proofs.YtkdhaipjfkalfaaGreatDoor
