import Derived.Test.YtkdhaipjfkalfaaGreatDoorLgb
import Derived.Laws.AppendOwnNone
/- What is proved: the walk of ScalJoins: it returns true whatever comes in. -/
namespace Go.Proofs.YtkdhaipjfkalfaaGreatDoor
open Go Go.RowKit Go.Lib Go.Sort
set_option linter.unusedSimpArgs false
set_option linter.unusedVariables false

/-- A list of scalars is laid behind a row of the call's own. -/
theorem wpList_append_scs {ops : Array Oper} {rest : List Oper} {o : Oper} {a : Act} {Q : Exit → Act → World → Prop} (hgd : o.guard = none) (s x : Operand)
    (ho : o.op = .call { callee := .builtin .append, args := #[s, x], argTypes := #[34, 34] }) (B B2 : Nat) (v u : Value) (ts ys : List Sc) (w : World)
    (hs : a.eval s = v) (hx : a.eval x = u) (hown : OwnS w B v ts) (hu : OwnS w B2 u ys) (hB : B ≤ w.heap.size) (hl : ts.length ≤ 1000) (hl2 : ys.length ≤ 1000)
    (h : ∀ v' w', OwnS w' B v' (ts ++ ys) → Below B w w' → IsSl v' (ts.length + ys.length) → wpList Tryz.prog ops Q rest (a.put o.dst v') w') :
    wpList Tryz.prog ops Q (o :: rest) a w := by
  obtain ⟨i0, hi, hz1, hz2, hz3⟩ := info_parts info_sc
  have hown0 : w.ownsRow B 23 3 v ts.length (ts.flatMap scCells) := hown
  rcases hu.2 with ⟨hu0, hn0⟩ | ⟨g, cap, cur, hv, _, hg, hnc, hcm, hsz, htake⟩
  · have : ys = [] := List.eq_nil_of_length_eq_zero hn0
    subst this
    refine wpList_append_own_none hgd s x 34 ho B 23 i0 3 Tryz.underlying34 hi v ts.length _ hs hown0 (hx.trans hu0) ?_
    obtain ⟨A, cap, hv⟩ := hown.shape
    exact h v w (by rw [List.append_nil]; exact hown) (Below.refl _ _) ⟨A, cap, by rw [hv]; rfl⟩
  · have hnews : ∀ j uu, (ys.flatMap scCells)[j]? = some uu → w.cell? ((⟨g, 0, none⟩ : Addr).add j) = some uu := fun j uu hj => by
      refine World.news_of_block hg j uu ?_
      rw [← htake, List.getElem?_take] at hj
      split at hj
      · exact hj
      · cases hj
    refine wpList_append_own _ hgd s x 34 ho B 23 i0 (.agg #[.int .i64 0, .int .i64 0, .string ⟨#[]⟩]) 3 32 Tryz.underlying34 hi hz1 hz2 hz3 rfl (by decide) v ts.length _ hs hown0 ⟨g, 0, none⟩ ys.length cap (ys.flatMap scCells) (hx.trans hv) (flat_lenS ys)
      hnews (by
        intro uu hu
        obtain ⟨y, _, hy⟩ := List.mem_flatMap.1 hu
        simp [scCells] at hy; rcases hy with rfl | rfl | rfl <;> rfl) (by unfold maxLen; omega) (by omega) hB ?_
    intro v' w' h1 h2 h3
    have hown' : OwnS w' B v' (ts ++ ys) := by
      unfold OwnS
      rw [List.length_append, List.flatMap_append]
      exact h1
    obtain ⟨A, cap', hv'⟩ := hown'.shape
    exact h v' w' hown' ((Below.refl B w).grown h2 hB (fun j hj => (own_rowS hown hj).1)) ⟨A, cap', by rw [hv']; simp⟩
theorem OwnS.belowN {w w' : World} {B N : Nat} {v : Value} {ts : List Sc} (h : OwnS w B v ts) (hb : Below N w w') (hN : ∀ k, v.ownBlock = some k → k < N) : OwnS w' B v ts := by
  refine ⟨h.1, ?_⟩
  rcases h.2 with h0 | ⟨g, cap, cur, hv, hB, hg, hr⟩
  · exact .inl h0
  · exact .inr ⟨g, cap, cur, hv, hB, (hb.block g (hN g (by rw [hv]; rfl))).trans hg, hr⟩
/-- A list of the call's own lies below the world's end. -/
theorem own_lt {w : World} {B : Nat} {v : Value} {ts : List Sc} (h : OwnS w B v ts) : ∀ k, v.ownBlock = some k → k < w.heap.size := fun k hk => by
  obtain ⟨_, cur, hc⟩ := own_rowS h hk
  exact (Array.getElem?_eq_some_iff.1 hc).1

set_option maxRecDepth 100000 in
set_option maxHeartbeats 8000000 in
theorem ScalJoins_any (v v2 : Value) (xs xs2 : List Sc) (w : World) (hx : ScIn w v xs) (hy : ScIn w v2 xs2) (hT : Tabs w) :
    Calls Tryz.prog 9 #[v, v2] w fun e w' => e = .returned (.bool true) ∧ Below w.heap.size w w' := by
  have hF := fun wx (hb : Below w.heap.size w wx) => Few_any v xs wx (hx.below hb)
  have hG := fun wx (hb : Below w.heap.size w wx) => Few_any v2 xs2 wx (hy.below hb)
  have hl := few_len xs
  have hl2 := few_len xs2
  unfold FewPost at hF hG
  obtain ⟨fs, hfs⟩ : ∃ fs, fewS xs = fs := ⟨_, rfl⟩
  obtain ⟨gs, hgs⟩ : ∃ fs, fewS xs2 = fs := ⟨_, rfl⟩
  rw [hfs] at hF hl
  rw [hgs] at hG hl2
  obtain ⟨A, ca, rfl, -⟩ := hx
  obtain ⟨A', ca', rfl, -⟩ := hy
  have hSH := shown_any w hT
  clear hfs hgs hT
  go_enter Tryz.func9, Tryz.ntmps9
  go_wp2_with fail
  refine hSH.mono ?_
  rintro e w1 ⟨rfl, hs⟩
  clear hSH
  go_wp2_with fail
  refine (hF _ hs).mono ?_
  rintro e w2 ⟨u, rfl, hu, hb⟩
  replace hs := below_step hs hb
  clear hF hb
  go_wp2_with fail
  refine (hG _ hs).mono ?_
  rintro e w3 ⟨u2, rfl, hu2, hb⟩
  replace hs := below_step hs hb
  replace hu := hu.below hb
  clear hG hb
  obtain ⟨A1, c1, rfl⟩ := hu.shape
  obtain ⟨A2, c2, rfl⟩ := hu2.shape
  have HU := hid hu
  have HV := hid hu2
  have HW := hid hs
  have hn1 : fs.length ≤ 30 := hl
  have hn2 : gs.length ≤ 30 := hl2
  clear hu hu2 hs hl hl2
  go_wp2_with (at_builtin; go_must (refine wpList_append_scs rfl _ _ rfl w3.heap.size w1.heap.size (.slice none 0 0) (.slice A1 fs.length c1) [] fs w3 (by rfl) (by rfl) (World.ownsRow_nil _ _ _ _) HU.out (Nat.le_refl _) (by decide) (by omega) ?_))
  rintro va wa1 hown hba ⟨Aa1, ca1, rfl⟩
  have HA1 := hid (show OwnS wa1 w3.heap.size (.slice Aa1 fs.length ca1) fs by simpa using hown)
  have HB1 := hid hba
  have HSa1 := hid (HV.out.belowN hba (own_lt HV.out))
  have hsz1 : w3.heap.size ≤ wa1.heap.size := hba.size
  clear hown hba
  try simp only [List.length_nil, Nat.zero_add]
  go_wp2_with (at_builtin; go_must (refine wpList_append_scs rfl _ _ rfl w3.heap.size w2.heap.size (.slice Aa1 fs.length ca1) (.slice A2 gs.length c2) fs gs wa1 (by rfl) (by rfl) HA1.out HSa1.out (by omega) (by omega) (by omega) ?_))
  rintro vb wb1 hown hbb ⟨Ab1, cb1, rfl⟩
  have HR1 := hid hown
  have hbt : Below w3.heap.size w3 wb1 := HB1.out.trans hbb
  have HU1 := hid (HU.out.below hbt)
  have HV1 := hid (HV.out.below hbt)
  have HT1 := hid hbt
  clear hown hbb hbt
  go_wp2_with (at_builtin; go_must (refine wpList_append_scs rfl _ _ rfl wb1.heap.size w2.heap.size (.slice none 0 0) (.slice A2 gs.length c2) [] gs wb1 (by rfl) (by rfl) (World.ownsRow_nil _ _ _ _) HV1.out (Nat.le_refl _) (by decide) (by omega) ?_))
  rintro va wa2 hown hba ⟨Aa2, ca2, rfl⟩
  have HA2 := hid (show OwnS wa2 wb1.heap.size (.slice Aa2 gs.length ca2) gs by simpa using hown)
  have HB2 := hid hba
  have HSa2 := hid (HU1.out.belowN hba (own_lt HU1.out))
  have hsz2 : wb1.heap.size ≤ wa2.heap.size := hba.size
  clear hown hba
  try simp only [List.length_nil, Nat.zero_add]
  go_wp2_with (at_builtin; go_must (refine wpList_append_scs rfl _ _ rfl wb1.heap.size w1.heap.size (.slice Aa2 gs.length ca2) (.slice A1 fs.length c1) gs fs wa2 (by rfl) (by rfl) HA2.out HSa2.out (by omega) (by omega) (by omega) ?_))
  rintro vb wb2 hown hbb ⟨Ab2, cb2, rfl⟩
  have HR2 := hid hown
  have hbt : Below wb1.heap.size wb1 wb2 := HB2.out.trans hbb
  have HU2 := hid (HU1.out.below hbt)
  have HV2 := hid (HV1.out.below hbt)
  have HT2 := hid hbt
  clear hown hbb hbt
  go_wp2_with (at_builtin; go_must (refine wpList_append_scs rfl _ _ rfl wb2.heap.size w1.heap.size (.slice none 0 0) (.slice A1 fs.length c1) [] fs wb2 (by rfl) (by rfl) (World.ownsRow_nil _ _ _ _) HU2.out (Nat.le_refl _) (by decide) (by omega) ?_))
  rintro va wa3 hown hba ⟨Aa3, ca3, rfl⟩
  have HA3 := hid (show OwnS wa3 wb2.heap.size (.slice Aa3 fs.length ca3) fs by simpa using hown)
  have HB3 := hid hba
  have HSa3 := hid (HU2.out.belowN hba (own_lt HU2.out))
  have hsz3 : wb2.heap.size ≤ wa3.heap.size := hba.size
  clear hown hba
  try simp only [List.length_nil, Nat.zero_add]
  go_wp2_with (at_builtin; go_must (refine wpList_append_scs rfl _ _ rfl wb2.heap.size w1.heap.size (.slice Aa3 fs.length ca3) (.slice A1 fs.length c1) fs fs wa3 (by rfl) (by rfl) HA3.out HSa3.out (by omega) (by omega) (by omega) ?_))
  rintro vb wb3 hown hbb ⟨Ab3, cb3, rfl⟩
  have HR3 := hid hown
  have hbt : Below wb2.heap.size wb2 wb3 := HB3.out.trans hbb
  have HU3 := hid (HU2.out.below hbt)
  have HV3 := hid (HV2.out.below hbt)
  have HT3 := hid hbt
  clear hown hbb hbt
  have hra := (HR1.out.below HT2.out).below HT3.out
  have hrb := HR2.out.below HT3.out
  have hrc := HR3.out
  have hru := HU3.out
  have hs := below_step (below_step (below_step HW.out HT1.out) HT2.out) HT3.out
  have sa := hra.sl
  have sb := hrb.sl
  have sc := hrc.sl
  have su := hru.sl
  have hla : (fs ++ gs).length ≤ 1000 := by rw [List.length_append]; omega
  have hlb : (gs ++ fs).length ≤ 1000 := by rw [List.length_append]; omega
  have hlc : (fs ++ fs).length ≤ 1000 := by rw [List.length_append]; omega
  have h1 := fun wx hx => sort_any (.slice Ab1 (fs.length + gs.length) cb1) (fs ++ gs) wx hx (by omega)
  have h2 := fun wx hx => sort_any (.slice Ab2 (gs.length + fs.length) cb2) (gs ++ fs) wx hx (by omega)
  unfold SortPost at h1 h2
  rw [sortL_congr good_Sc (List.perm_append_comm : (gs ++ fs).Perm (fs ++ gs))] at h2
  have hls : (sortL cmpSc (fs ++ gs)).length ≤ 1000 := by rw [length_sortL]; exact hla
  have h3 := fun wx hx => twice_any (.slice Ab1 (fs.length + gs.length) cb1) (fs ++ gs) wx hx (by omega)
  have h4 := fun wx hx => twice_any (.slice Ab2 (gs.length + fs.length) cb2) (gs ++ fs) wx hx (by omega)
  have h5 := fun wx hx => twice_any (.slice Ab3 (fs.length + fs.length) cb3) (fs ++ fs) wx hx (by omega)
  have h6 := fun wx hx => twice_any (.slice A1 fs.length c1) fs wx hx (by omega)
  rw [dup_perm (List.perm_append_comm : (gs ++ fs).Perm (fs ++ gs))] at h4
  rw [dup_self] at h5
  have hleft := dup_left fs gs
  obtain ⟨ms, hms⟩ : ∃ ms, sortL cmpSc (fs ++ gs) = ms := ⟨_, rfl⟩
  obtain ⟨d1, hd1⟩ : ∃ d, dupL (fs ++ gs) = d := ⟨_, rfl⟩
  obtain ⟨d4, hd4⟩ : ∃ d, dupL fs = d := ⟨_, rfl⟩
  obtain ⟨d3, hd3⟩ : ∃ d, decide (0 < fs.length) = d := ⟨_, rfl⟩
  rw [hms] at h1 h2 hls
  rw [hd1] at h3 h4 hleft
  rw [hd3] at h5
  rw [hd4] at h6 hleft
  have hd3i : decide ((0 : Int) < (fs.length : Int)) = d3 := by rw [← hd3]; exact decide_eq_decide.2 (by omega)
  have K1 := hid h1
  have K2 := hid h2
  have K3 := hid h3
  have K4 := hid h4
  have K5 := hid h5
  have K6 := hid h6
  have KL := hid hleft
  have KD := hid (And.intro hd3i hd3)
  have KS := hid (And.intro sa (And.intro sb (And.intro sc (And.intro su hs))))
  clear h1 h2 h3 h4 h5 h6 hms hd1 hd3 hd4 hleft hd3i hra hrb hrc hru sa sb sc su hs hla hlb hlc
  go_wp2_with fail
  refine (K1.out _ KS.out.1).mono ?_
  rintro e x1 ⟨v1, rfl, hv1, hb⟩
  have KS1 := hid (And.intro (KS.out.1.below hb) (And.intro (KS.out.2.1.below hb) (And.intro (KS.out.2.2.1.below hb) (And.intro (KS.out.2.2.2.1.below hb) (below_step KS.out.2.2.2.2 hb)))))
  clear hb
  go_wp2_with fail
  refine (K2.out _ KS1.out.2.1).mono ?_
  rintro e x2 ⟨v2', rfl, hv2, hb⟩
  have KS2 := hid (And.intro (KS1.out.1.below hb) (And.intro (KS1.out.2.1.below hb) (And.intro (KS1.out.2.2.1.below hb) (And.intro (KS1.out.2.2.2.1.below hb) (below_step KS1.out.2.2.2.2 hb)))))
  replace hv1 := hv1.below hb
  clear hb
  go_wp2_with fail
  refine (refSame06_any v1 v2' ms ms x2 hv1 hv2 (by omega) (by omega)).mono ?_
  rw [decide_eq_true (rfl : ms = ms)]
  rintro e x3 ⟨rfl, hb⟩
  have KS3 := hid (And.intro (KS2.out.1.below hb) (And.intro (KS2.out.2.1.below hb) (And.intro (KS2.out.2.2.1.below hb) (And.intro (KS2.out.2.2.2.1.below hb) (below_step KS2.out.2.2.2.2 hb)))))
  clear hv1 hv2
  clear hb
  go_wp2_with fail
  refine (K3.out _ KS3.out.1).mono ?_
  rintro e x4 ⟨rfl, hb⟩
  have KS4 := hid (And.intro (KS3.out.1.below hb) (And.intro (KS3.out.2.1.below hb) (And.intro (KS3.out.2.2.1.below hb) (And.intro (KS3.out.2.2.2.1.below hb) (below_step KS3.out.2.2.2.2 hb)))))
  clear hb
  go_wp2_with fail
  refine (K4.out _ KS4.out.2.1).mono ?_
  rintro e x5 ⟨rfl, hb⟩
  have KS5 := hid (And.intro (KS4.out.1.below hb) (And.intro (KS4.out.2.1.below hb) (And.intro (KS4.out.2.2.1.below hb) (And.intro (KS4.out.2.2.2.1.below hb) (below_step KS4.out.2.2.2.2 hb)))))
  clear hb
  go_wp2_with fail
  refine (K5.out _ KS5.out.2.2.1).mono ?_
  rintro e x6 ⟨rfl, hb⟩
  have KS6 := hid (And.intro (KS5.out.1.below hb) (And.intro (KS5.out.2.1.below hb) (And.intro (KS5.out.2.2.1.below hb) (And.intro (KS5.out.2.2.2.1.below hb) (below_step KS5.out.2.2.2.2 hb)))))
  clear hb
  have hd3i := KD.out.1
  have hd3n := KD.out.2
  cases d4 with
  | false =>
    go_wp2_with fail
    refine (K6.out _ KS6.out.2.2.2.1).mono ?_
    rintro e x7 ⟨rfl, hb⟩
    have HF := hid (below_step KS6.out.2.2.2.2 hb)
    clear hb
    go_wp2
    go_ret
    exact ⟨rfl, HF.out⟩
  | true =>
    obtain rfl : d1 = true := KL.out rfl
    go_wp2_with fail
    refine (K6.out _ KS6.out.2.2.2.1).mono ?_
    rintro e x7 ⟨rfl, hb⟩
    have HA7 := hid (And.intro (KS6.out.1.below hb) (below_step KS6.out.2.2.2.2 hb))
    clear hb
    go_wp2_with fail
    refine (K3.out _ HA7.out.1).mono ?_
    rintro e x8 ⟨rfl, hb⟩
    have HF := hid (below_step HA7.out.2 hb)
    clear hb
    go_wp2
    go_ret
    exact ⟨rfl, HF.out⟩
end Go.Proofs.YtkdhaipjfkalfaaGreatDoor
