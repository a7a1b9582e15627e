import Derived.Test.YtiinnnbpbnojgaaGreatDoorKl
import Derived.Test.YtiinnnbpbnojgaaGreatDoorMf
import Derived.Laws.EntriesVeiled
import Derived.Test.YtiinnnbpbnojgaaGreatDoorLoopb
import Derived.RegionTactic
/- What is proved: package tok's one, at every place of a right text; its iterator over the pieces of a line. -/
namespace Go.Proofs.YtiinnnbpbnojgaaGreatDoor
open Go Go.RowKit Go.Lib
set_option linter.unusedSimpArgs false
set_option linter.unusedVariables false
attribute [local go_sem] Oper.semAt_some

theorem assoc_no {R : Nat} {c : UInt8} (h : c ≠ 34 ∧ c ≠ 39 ∧ c ≠ 38 ∧ c ≠ 42 ∧ c ≠ 45 ∧ c ≠ 58 ∧ c ≠ 91 ∧ c ≠ 123 ∧ c ≠ 44 ∧ c ≠ 93 ∧ c ≠ 125) : assoc (c.toNat : Int) (rdL R) = none := by
  have hn : ∀ k : UInt8, c ≠ k → ((c.toNat : Int) == (k.toNat : Int)) = false := fun k hk => by rw [byte_eq, beq_eq_false_iff_ne]; exact hk
  obtain ⟨a1, a2, a3, a4, a5, a6, a7, a8, a9, a10, a11⟩ := h
  have b1 : ((c.toNat : Int) == 34) = false := hn 34 a1
  have b2 : ((c.toNat : Int) == 39) = false := hn 39 a2
  have b3 : ((c.toNat : Int) == 38) = false := hn 38 a3
  have b4 : ((c.toNat : Int) == 42) = false := hn 42 a4
  have b5 : ((c.toNat : Int) == 45) = false := hn 45 a5
  have b6 : ((c.toNat : Int) == 58) = false := hn 58 a6
  have b7 : ((c.toNat : Int) == 91) = false := hn 91 a7
  have b8 : ((c.toNat : Int) == 123) = false := hn 123 a8
  have b9 : ((c.toNat : Int) == 44) = false := hn 44 a9
  have b10 : ((c.toNat : Int) == 93) = false := hn 93 a10
  have b11 : ((c.toNat : Int) == 125) = false := hn 125 a11
  unfold rdL
  simp only [assoc, b1, b2, b3, b4, b5, b6, b7, b8, b9, b10, b11]
  rfl

theorem one_any (R : Nat) (s : ByteArray) (p d : Nat) (w : World) (hs : s.size ≤ 1000000) (hp : p < s.size) (hd : d ≤ 1000000) (hR : RA w R s p d) (hTab : TabR R w) (hv : validD s.data.toList = true) :
    Calls Tryz.prog 94 #[.pointer (some ⟨R, 0, none⟩)] w (PostT R s p (oneT s.data.toList p d) w) := by
  obtain ⟨c, hc⟩ : ∃ c, s[p]'hp = c := ⟨_, rfl⟩
  have hg : s.data.toList.getD p 0 = c := (getD_byte s p hp).trans hc
  unfold oneT oneC
  rw [hg]
  by_cases h1 : c = 34 ∨ c = 39
  · rw [if_pos h1]
    refine one_fn 175 (enters_of Tryz.func175 (by kernel_rfl) rfl) R s p d w hs hp hR hTab c hc (by rcases h1 with rfl | rfl <;> rfl) _ (fun wx hx ht => quoted_any R s p d wx hs hp hx ht hv (by rw [hg]; exact h1))
  rw [if_neg h1]
  by_cases h2 : c = 38 ∨ c = 42
  · rw [if_pos h2]
    refine one_fn 176 (enters_of Tryz.func176 (by kernel_rfl) rfl) R s p d w hs hp hR hTab c hc (by rcases h2 with rfl | rfl <;> rfl) _ (fun wx hx ht => named_any R s p d wx hs hp hx)
  rw [if_neg h2]
  by_cases h3 : c = 45
  · rw [if_pos h3]
    refine one_fn 177 (enters_of Tryz.func177 (by kernel_rfl) rfl) R s p d w hs hp hR hTab c hc (by rw [h3]; rfl) _ (fun wx hx ht => dash_any R s p d wx hs hp hx ht)
  rw [if_neg h3]
  by_cases h4 : c = 58
  · rw [if_pos h4]
    refine one_fn 178 (enters_of Tryz.func178 (by kernel_rfl) rfl) R s p d w hs hp hR hTab c hc (by rw [h4]; rfl) _ (fun wx hx ht => colon_any R s p d wx hs hp hx ht)
  rw [if_neg h4]
  by_cases h5 : c = 91 ∨ c = 123
  · rw [if_pos h5]
    refine one_fn 179 (enters_of Tryz.func179 (by kernel_rfl) rfl) R s p d w hs hp hR hTab c hc (by rcases h5 with rfl | rfl <;> rfl) _ (fun wx hx ht => opens_any R s p d wx hs hp hd hx c hc)
  rw [if_neg h5]
  by_cases h6 : c = 44 ∨ c = 93 ∨ c = 125
  · rw [if_pos h6]
    refine one_fn 180 (enters_of Tryz.func180 (by kernel_rfl) rfl) R s p d w hs hp hR hTab c hc (by rcases h6 with rfl | rfl | rfl <;> rfl) _ (fun wx hx ht => inside_any R s p d wx hs hp hd hx c hc h6)
  rw [if_neg h6]
  exact one_no R s p d w hs hp hR hTab c hc (assoc_no ⟨fun e => h1 (.inl e), fun e => h1 (.inr e), fun e => h2 (.inl e), fun e => h2 (.inr e), h3, h4, fun e => h5 (.inl e), fun e => h5 (.inr e), fun e => h6 (.inl e), fun e => h6 (.inr (.inl e)), fun e => h6 (.inr (.inr e))⟩) _ (fun wx hx ht => plain_any R s p d wx hs hp hx ht)
end Go.Proofs.YtiinnnbpbnojgaaGreatDoor

/- What is proved: package tok's iterator over the pieces of a line. -/
namespace Go.Proofs.YtiinnnbpbnojgaaGreatDoor
open Go Go.RowKit Go.Lib
set_option linter.unusedSimpArgs false
set_option linter.unusedVariables false
attribute [local go_sem] Oper.semAt_some

theorem tpieces_any (R : Nat) (w : World) :
    Calls Tryz.prog 56 #[.pointer (some ⟨R, 0, none⟩)] w fun e w' => e = .returned (.func (.func 91) #[] #[.pointer (some ⟨w.heap.size, 0, none⟩)]) ∧ w' = w.alloc (.cells #[.pointer (some ⟨R, 0, none⟩)] 132) := by
  go_enter Tryz.func56, Tryz.ntmps56
  go_wp2
  go_ret
  exact ⟨by simp, rfl⟩

def encT : TP → Array Value
  | .tok k t p => #[tkV ⟨k, t, p⟩, .nilIface]
  | .bad e p => #[.agg #[.int .i64 0, .string ⟨#[]⟩, .int .i64 p], .iface 181 (.agg #[.int .i64 e])]
theorem Turn.of_mod {R B : Nat} {C : Nat → Prop} {X Y : World} (h : ModR R X Y) (hC : C R) : Turn C B X Y :=
  ⟨h.os, h.tape, h.output, Turn.size h, fun k o hk hc _ => h.block k o hk (fun e => hc (by rw [e]; exact hC)) (.inl (Array.getElem?_eq_some_iff.1 hk).1), h.kinds⟩
def posR (w : World) (R : Nat) : Nat := match w.cell? ⟨R, 1, none⟩ with | some (.int _ n) => n.toNat | _ => 0
theorem posR_of {w : World} {R : Nat} {s : ByteArray} {p d : Nat} (h : RA w R s p d) : posR w R = p := by
  unfold posR; rw [h.cells.2.1]; simp
/-- A list that ends in a mistake. -/
def badL (ps : List TP) : Prop := badOf ps ≠ none

theorem badL_snoc : ∀ (pre : List TP) (e p : Nat), badL (pre ++ [.bad e p])
  | [], _, _ => by unfold badL; simp [badOf]
  | .tok _ _ _ :: r, e, p => by
    have := badL_snoc r e p
    unfold badL at this ⊢
    exact this
  | .bad _ _ :: r, e, p => by unfold badL; simp [badOf]

set_option maxRecDepth 100000 in
set_option maxHeartbeats 4000000 in
theorem tpieces_iter (s : ByteArray) (R Bb n₀ : Nat) (w0 : World) (hT0 : Tabs w0) (hN0 : w0.heap.size ≤ n₀) (hR0 : w0.heap.size ≤ R) (hBb : w0.heap.size ≤ Bb) (hne : Bb ≠ R) (hs : s.size ≤ 1000000) (hv : validD s.data.toList = true) :
    IterB badL Tryz.prog 91 #[.pointer (some ⟨Bb, 0, none⟩)] encT (fun k => k = Bb ∨ k = R) n₀ (toksT s.data.toList 0 0) (fun W => RA W R s 0 0 ∧ Boxed W Bb 132 (.pointer (some ⟨R, 0, none⟩)) ∧ Below w0.heap.size w0 W) := by
  intro l J Jx W ⟨hr, hc, hbl⟩ hJ hJx hJb hY h0
  refine callsIn_of_wp Tryz.func91 rfl trivial ?_ rfl
  simp only [Tryz.ntmps91, List.size_toArray, List.length_cons, List.length_nil, Nat.reduceAdd, Nat.reduceSub, Array.replicate_succ, Array.replicate_zero, List.push_toArray, List.append_toArray, List.nil_append, List.cons_append]
  gi_wp2
  refine wpIn_scope ?_
  gi_wp2
  refine wpIn_label ?_
  gi_wp2
  gi_loopw [3, 4, 5] (fun _ _ _ wr => ∃ (p d : Nat) (pre : List TP), RA wr R s p d ∧ Boxed wr Bb 132 (.pointer (some ⟨R, 0, none⟩)) ∧ Below w0.heap.size w0 wr ∧ W.heap.size ≤ wr.heap.size ∧ J pre wr ∧ p ≤ s.size ∧ d ≤ p ∧ Hid (toksT s.data.toList 0 0 = pre ++ toksT s.data.toList p d)) (fun _ _ _ wr => s.size - posR wr R)
  case atStart => exact ⟨0, 0, [], hr, hc, hbl, Nat.le_refl _, h0, by omega, by omega, hid rfl⟩
  case round =>
    obtain ⟨p, d, pre, hr1, hc1, hb1, hz1, hJ1, hp1, hd1, HP⟩ := hrel
    clear hr hc hbl h0
    have hRB : R ≠ Bb := fun e => hne e.symm
    obtain ⟨r0, r1, r2, f0, f1, f2⟩ := hr1.cells
    have k0 := hc1.cell
    have HM := hid (posR_of hr1)
    rcases Nat.lt_or_ge p s.size with hlt | hge
    · have hlti : decide ((p : Int) < (s.size : Int)) = true := by simp; omega
      have hlti2 : decide (p < s.size) = true := by simp; omega
      have hI := fun wx hx => is_new R s p d 0 p [32] 1 1 wx hs (by omega) (by omega) rfl (by omega) hx
      have hN := fun wx hx => isNote_any R s p d wx hs (by omega) hx
      have hO := fun wx hx ht => one_any R s p d wx hs hlt (by omega) hx ht hv
      have hll : p < s.data.toList.length := by rw [← Lib.size_eq]; exact hlt
      cases hib : isB s.data.toList p [32] with
      | true =>
        rw [hib] at hI
        have HP' := hid (show toksT s.data.toList 0 0 = pre ++ toksT s.data.toList (p + 1) d by rw [HP.out, toksT_blank hv hll hib])
        clear hib HP hll hN hO
        gi_wp2
        gi_region
        gi_wp2_with fail
        refine ⟨trivial, rfl, (callsIn_wide.2 (hI wr.drew hr1)).mono ?_⟩
        rintro e w2 ⟨rfl, hb2⟩
        have hbx : Below wr.heap.size wr w2 := (Below.refl _ wr).drew.trans hb2
        have hr2 := hr1.below hbx
        have hc2 : Boxed w2 Bb 132 (.pointer (some ⟨R, 0, none⟩)) := boxed_below hc1 hbx
        have hb3 := hb1.trans (hbx.mono hb1.size)
        have hz2 := Nat.le_trans hz1 hbx.size
        have hJ2 := hJ _ _ _ hJ1 (Turn.of_below hbx)
        clear hI hr1 hc1 hb1 hz1 hJ1 hb2 hbx r0 r1 r2 f0 f1 f2 k0
        obtain ⟨r0, r1, r2, f0, f1, f2⟩ := hr2.cells
        have k0 := hc2.cell
        have hr3 := hr2.set1 (p + 1)
        have HM2 := hid (posR_of hr3)
        have hc3 : Boxed (w2.setCell ⟨R, 1, none⟩ (.int .i64 ((p + 1 : Nat) : Int))) Bb 132 (.pointer (some ⟨R, 0, none⟩)) := (Below.heap_setCell w2 ⟨R, 1, none⟩ _ _ hne).trans hc2
        have hb4 : Below w0.heap.size w0 (w2.setCell ⟨R, 1, none⟩ (.int .i64 ((p + 1 : Nat) : Int))) := hb3.setCell (p := ⟨R, 1, none⟩) hR0 _
        have hz3 : W.heap.size ≤ (w2.setCell ⟨R, 1, none⟩ (.int .i64 ((p + 1 : Nat) : Int))).heap.size := by rw [size_setCell]; exact hz2
        have hJ3 := hJ _ _ _ hJ2 (Turn.setCell w2 ⟨R, 1, none⟩ (.int .i64 ((p + 1 : Nat) : Int)) (.inr rfl))
        gi_wp2
        go_roundw
        case rel => exact ⟨p + 1, d, pre, hr3, hc3, hb4, hz3, hJ3, by omega, by omega, HP'⟩
        case measure => rw [HM.out]; show s.size - posR (w2.setCell ⟨R, 1, none⟩ (.int .i64 ((p + 1 : Nat) : Int))) R < _; rw [HM2.out]; omega
      | false =>
        rw [hib] at hI
        cases hnb : noteB s.data.toList p with
        | true =>
          rw [hnb] at hN
          have HX := hid (show toksT s.data.toList 0 0 = pre by rw [HP.out, toksT_note hv hll hib hnb, List.append_nil])
          clear hib hnb hll hO HP
          gi_wp2
          gi_region
          gi_wp2_with fail
          refine ⟨trivial, rfl, (callsIn_wide.2 (hI wr.drew hr1)).mono ?_⟩
          rintro e w2 ⟨rfl, hb2⟩
          have hbx : Below wr.heap.size wr w2 := (Below.refl _ wr).drew.trans hb2
          have hr2 := hr1.below hbx
          have hc2 : Boxed w2 Bb 132 (.pointer (some ⟨R, 0, none⟩)) := boxed_below hc1 hbx
          have hJ2 := hJ _ _ _ hJ1 (Turn.of_below hbx)
          clear hI hr1 hc1 hb1 hz1 hJ1 hb2 hbx r0 r1 r2 f0 f1 f2 k0
          have k0 := hc2.cell
          gi_wp2_with fail
          refine ⟨trivial, rfl, (callsIn_wide.2 (hN w2 hr2)).mono ?_⟩
          rintro e w3 ⟨rfl, hb3⟩
          have hJ3 := hJ _ _ _ hJ2 (Turn.of_below hb3)
          clear hN hb3 hr2 hc2 hJ2 k0
          gi_wp2
          try simp only [Exit.noGoto_normal]
          go_end0
          exact ⟨⟨_, rfl⟩, .inl (by rw [HX.out]; exact hJ3)⟩
        | false =>
          rw [hnb] at hN
          have HN := hid (And.intro hib hnb)
          clear hib hnb
          gi_wp2
          gi_region
          gi_wp2_with fail
          refine ⟨trivial, rfl, (callsIn_wide.2 (hI wr.drew hr1)).mono ?_⟩
          rintro e w2 ⟨rfl, hb2⟩
          have hbx : Below wr.heap.size wr w2 := (Below.refl _ wr).drew.trans hb2
          have hr2 := hr1.below hbx
          have hc2 : Boxed w2 Bb 132 (.pointer (some ⟨R, 0, none⟩)) := boxed_below hc1 hbx
          have hb3 := hb1.trans (hbx.mono hb1.size)
          have hz2 := Nat.le_trans hz1 hbx.size
          have hJ2 := hJ _ _ _ hJ1 (Turn.of_below hbx)
          clear hI hr1 hc1 hb1 hz1 hJ1 hb2 hbx r0 r1 r2 f0 f1 f2 k0
          have k0 := hc2.cell
          gi_wp2_with fail
          refine ⟨trivial, rfl, (callsIn_wide.2 (hN w2 hr2)).mono ?_⟩
          rintro e w3 ⟨rfl, hbx⟩
          have hr3 := hr2.below hbx
          have hc3 : Boxed w3 Bb 132 (.pointer (some ⟨R, 0, none⟩)) := boxed_below hc2 hbx
          have hb4 := hb3.trans (hbx.mono hb3.size)
          have hz3 := Nat.le_trans hz2 hbx.size
          have hJ3 := hJ _ _ _ hJ2 (Turn.of_below hbx)
          clear hN hr2 hc2 hb3 hz2 hJ2 hbx k0
          obtain ⟨r0, r1, r2, f0, f1, f2⟩ := hr3.cells
          have k0 := hc3.cell
          gi_wp2_with fail
          refine ⟨trivial, rfl, (callsIn_wide.2 (hO w3 hr3 ⟨w0, hT0, hR0, hb4⟩)).mono ?_⟩
          rintro e w4 hQ
          clear hO r0 r1 r2 f0 f1 f2 k0
          cases ho : oneT s.data.toList p d with
          | ok k t q d' =>
            rw [ho] at hQ
            obtain ⟨rfl, hr4, hm4⟩ := hQ
            obtain ⟨g1, g2, _, _, _, g6, _⟩ := oneT_ok hv hll ho
            rw [← Lib.size_eq] at g2
            have hdd : d' ≤ q := by omega
            have HS := hid (show toksT s.data.toList 0 0 = (pre ++ [.tok k t p]) ++ toksT s.data.toList q d' by rw [HP.out, toksT_ok hv hll HN.out.1 HN.out.2 ho, List.append_assoc]; rfl)
            have hpre : pre ++ [TP.tok k t p] <+: toksT s.data.toList 0 0 := ⟨_, HS.out.symm⟩
            have hr5 := hr4.alloc (.cells #[.int .i64 k, .string ⟨t.toArray⟩, .int .i64 p] 39)
            clear g6 ho HP HN
            have hc4 : Boxed w4 Bb 132 (.pointer (some ⟨R, 0, none⟩)) := hm4.heap hc3 hne
            have hb5 : Below w0.heap.size w0 w4 := Turn.below hm4 hb4 (fun k hk => by omega) hb4.size (Nat.le_refl _)
            have hz4 := Nat.le_trans hz3 (ModR.size hm4)
            have hJ4 := hJ _ _ _ hJ3 (Turn.of_mod (C := fun k => k = Bb ∨ k = R) hm4 (.inr rfl))
            clear hm4 hc3 hb4 hz3 hJ3 hr3
            have hJ5 : J pre (w4.alloc (.cells #[.int .i64 k, .string ⟨t.toArray⟩, .int .i64 p] 39)) := hJ _ _ _ hJ4 (Turn.alloc _ _)
            have hc5 := hc4.alloc (.cells #[.int .i64 k, .string ⟨t.toArray⟩, .int .i64 p] 39)
            have hb6 : Below w0.heap.size w0 (w4.alloc (.cells #[.int .i64 k, .string ⟨t.toArray⟩, .int .i64 p] 39)) := hb5.alloc hb5.size _
            have hz5 : W.heap.size ≤ (w4.alloc (.cells #[.int .i64 k, .string ⟨t.toArray⟩, .int .i64 p] 39)).heap.size := by rw [World.size_alloc]; omega
            obtain ⟨fn, tmps, assign, body, hy, hR⟩ := hY pre (TP.tok k t p) _ hJ5 hpre
            dsimp only [encT, tkV] at hy
            have HPR := hid hpre
            unfold tkV
            clear hJ4 hc4 hb5 hz4 hpre hr4
            gi_wp2
            refine ⟨rfl, hR.mono ?_⟩
            rintro e W3 (⟨rfl, hJ6, hk6⟩ | ⟨rfl, hJ6, hk6⟩)
            · have hr6 : RA W3 R s q d' := hk6.heap hr5 (.inr (.inl (.inr rfl)))
              have hc6 : Boxed W3 Bb 132 (.pointer (some ⟨R, 0, none⟩)) := boxed_keeps hc5 hk6 (.inr (.inl rfl))
              have hb7 : Below w0.heap.size w0 W3 := hk6.below hb6 hN0 (Nat.le_refl _)
              have hz6 := Nat.le_trans hz5 hk6.size
              have HM2 := hid (posR_of hr6)
              clear hy hJ5 hr5 hc5 hb6 hz5 hk6
              gi_wp2
              go_roundw
              case rel => exact ⟨q, d', _, hr6, hc6, hb7, hz6, hJ6, g2, hdd, HS⟩
              case measure => rw [HM.out, HM2.out]; omega
            · clear hy hJ5 hr5 hc5 hb6 hz5 hk6
              gi_wp2
              try simp only [Exit.noGoto_normal]
              go_end0
              exact ⟨⟨_, rfl⟩, .inr ⟨_, HPR.out, hJ6⟩⟩
          | bad er =>
            rw [ho] at hQ
            obtain ⟨rfl, hm4⟩ := hQ
            have HS := hid (show toksT s.data.toList 0 0 = pre ++ [.bad er p] by rw [HP.out, toksT_bad hv hll HN.out.1 HN.out.2 ho])
            have hpre : pre ++ [TP.bad er p] <+: toksT s.data.toList 0 0 := ⟨[], by rw [HS.out, List.append_nil]⟩
            clear ho HP HN
            have hc4 : Boxed w4 Bb 132 (.pointer (some ⟨R, 0, none⟩)) := hm4.heap hc3 hne
            have hb5 : Below w0.heap.size w0 w4 := Turn.below hm4 hb4 (fun k hk => by omega) hb4.size (Nat.le_refl _)
            have hz4 := Nat.le_trans hz3 (ModR.size hm4)
            have hJ4 := hJ _ _ _ hJ3 (Turn.of_mod (C := fun k => k = Bb ∨ k = R) hm4 (.inr rfl))
            clear hm4 hc3 hb4 hz3 hJ3 hr3
            have hJ5 : J pre (w4.alloc (.cells #[.int .i64 0, .string ⟨#[]⟩, .int .i64 p] 39)) := hJ _ _ _ hJ4 (Turn.alloc _ _)
            have hc5 := hc4.alloc (.cells #[.int .i64 0, .string ⟨#[]⟩, .int .i64 p] 39)
            have hb6 : Below w0.heap.size w0 (w4.alloc (.cells #[.int .i64 0, .string ⟨#[]⟩, .int .i64 p] 39)) := hb5.alloc hb5.size _
            have hz5 : W.heap.size ≤ (w4.alloc (.cells #[.int .i64 0, .string ⟨#[]⟩, .int .i64 p] 39)).heap.size := by rw [World.size_alloc]; omega
            obtain ⟨fn, tmps, assign, body, hy, hR⟩ := hY pre (TP.bad er p) _ hJ5 hpre
            dsimp only [encT, tkV] at hy
            have HPR := hid hpre
            unfold tkV
            clear hJ4 hc4 hb5 hz4 hpre
            gi_wp2
            refine ⟨rfl, hR.mono ?_⟩
            rintro e W3 (⟨rfl, hJ6, hk6⟩ | ⟨rfl, hJ6, hk6⟩)
            · exact absurd hJ6 (hJb _ _ (badL_snoc pre er p))
            · clear hy hJ5 hc5 hb6 hz5 hk6
              gi_wp2
              try simp only [Exit.noGoto_normal]
              go_end0
              exact ⟨⟨_, rfl⟩, .inr ⟨_, HPR.out, hJ6⟩⟩
    · have HX := hid (show toksT s.data.toList 0 0 = pre by rw [HP.out, toksT_end d (by rw [← Lib.size_eq]; exact hge), List.append_nil])
      have hlti : decide ((p : Int) < (s.size : Int)) = false := by simp; omega
      have hlti2 : decide (p < s.size) = false := by simp; omega
      gi_wp2
      gi_region
      gi_wp2
      try simp only [Exit.noGoto_normal]
      go_end0
      exact ⟨⟨_, rfl⟩, .inl (by rw [HX.out]; exact hJ _ _ _ hJ1 (Turn.of_below (Below.refl _ wr).drew))⟩
end Go.Proofs.YtiinnnbpbnojgaaGreatDoor
