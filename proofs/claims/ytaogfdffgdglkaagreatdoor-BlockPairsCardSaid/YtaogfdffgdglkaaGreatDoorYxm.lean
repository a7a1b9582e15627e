/- What is proved: a part of the walk of the program and of its plain laws; no condition beside those that each theorem names. -/
import Derived.Test.YtaogfdffgdglkaaGreatDoorYxl
import Derived.Test.YtaogfdffgdglkaaGreatDoorYxd
import Derived.Test.YtaogfdffgdglkaaGreatDoorYv
import Derived.Test.YtaogfdffgdglkaaGreatDoorYa
import Derived.Deep.RegionHeld3
import Derived.Stop.RegionWithIn
namespace Go.Proofs.YtaogfdffgdglkaaGreatDoor
open Go Go.RowKit Go.Lib
set_option linter.unusedSimpArgs false
set_option linter.unusedVariables false
section
theorem MZ : ∀ (ps : List QP) (acc : List UInt8), (C8 ps acc).1.length <= acc.length + 4 * ps.length
 | [], acc => by simp [C8]
 | .sign r z :: t, acc => by
  have h1 := MZ t (acc ++ encodeRune r)
  have h2 := Lib.runeCells_le r
  rw [<- Lib.byteCells_encodeRune, Lib.byteCells_length] at h2
  replace h2 := h2.2
  rw [List.length_append] at h1
  show (C8 t (acc ++ encodeRune r)).1.length <= _
  simp only [List.length_cons]; omega
 | .fin z :: t, acc => by show acc.length <= _; omega
 | .bad e :: t, acc => by show (0 : Nat) <= _; omega
theorem Rf (s : ByteArray) (p : Int) : (B6 s p).1.length <= 4 * (s.size + 1) := by
 unfold B6
 split
 ·split
  ·rename_i q hq
   have h1 := MZ (AT s q (p.toNat + 1)) []
   have h2 := Fd s q (s.size + 1 - (p.toNat + 1)) (p.toNat + 1)
   unfold AT at h1 |-
   simp only [List.length_nil] at h1
   omega
  ·simp
 ·simp
theorem RM (l : List UInt8) : (FK l).length <= l.length := by
 unfold FK
 have := (List.dropWhile_sublist (· == (32 : UInt8)) (l := l.reverse)).length_le
 rw [List.length_reverse] at this |-
 exact this
theorem Gb {l : List UInt8} {p d k q0 d' : Nat} {t : List UInt8} (h : BE l p d = .ok k t q0 d') : t.length <= l.length := by
 unfold BE at h
 split at h
 ·injection h with _ h
  rw [<- h]
  refine Nat.le_trans (RM _) ?_
  rw [List.length_drop, List.length_take]; omega
 ·cases h
theorem Sk {l : List UInt8} {p d k q0 d' : Nat} {t : List UInt8} (h : CU l p d = .ok k t q0 d') : t.length <= 4 * (l.length + 1) := by
 unfold CU NH at h
 split at h
 ·unfold DY at h
  split at h
  ·split at h
   ·injection h with _ h
    rw [<- h]
    have := Rf ⟨l.toArray⟩ p
    rw [CB] at this
    exact this
   ·cases h
  ·cases h
 ·split at h
  ·unfold FW at h
   split at h
   ·injection h with _ h
    rw [<- h]
    unfold Bd
    have := (List.takeWhile_sublist Cq (l := l.drop (p + 1))).length_le
    rw [List.length_drop] at this
    omega
   ·cases h
  ·split at h
   ·unfold DW at h
    split at h
    ·split at h
     ·cases h
     ·injection h with _ h; rw [<- h]; simp
    ·have := Gb h; omega
   ·split at h
    ·unfold D0 at h
     split at h
     ·injection h with _ h; rw [<- h]; simp
     ·have := Gb h; omega
    ·split at h
     ·injection h with _ h; rw [<- h]; simp
     ·split at h
      ·unfold Cx at h
       split at h
       ·cases h
       ·split at h
        ·injection h with _ h; rw [<- h]; simp
        ·injection h with _ h; rw [<- h]; simp
      ·have := Gb h; omega
theorem GY {l : List UInt8} : ∀ (f p d : Nat), ∀ x ∈ (BG l f p d).map Hm, x.str.length <= 4 * (l.length + 1)
 | 0, p, d => by intro x hx; simp [BG] at hx
 | f + 1, p, d => by
  rcases Nat.lt_or_ge p l.length with hp | hp
  ·rw [E4 hp]
   split
   ·exact GY f (p + 1) d
   ·split
    ·intro x hx; simp at hx
    ·cases ho : CU l p d with
     | ok k t q d' =>
      intro x hx
      rcases List.mem_cons.1 hx with rfl | hx
      ·exact Sk ho
      ·exact GY f q d' x hx
     | bad e =>
      intro x hx
      rw [List.map_cons, List.map_nil, List.mem_singleton] at hx
      subst hx
      show (0 : Nat) <= _
      omega
  ·rw [GL hp]; intro x hx; simp at hx
theorem Mi {n : Nat} : ∀ {ts : List Tk} {last : Int} {d : Nat}, RO n last d ts -> ∀ t ∈ ts, t.at_ < n
 | [], _, _, _ => by intro t ht; cases ht
 | t :: r, last, d, h => by
  intro u hu
  obtain ⟨_, h2, _, _, _, d', _, _, _, h3⟩ := h
  rcases List.mem_cons.1 hu with rfl | hu
  ·exact h2
  ·exact Mi h3 u hu
theorem EG (l : List UInt8) : (C0 l).1.length <= l.length /\ (∀ t ∈ (C0 l).1, t.at_ < l.length /\ t.str.length <= 4 * (l.length + 1)) := by
 unfold C0
 by_cases hv : validD l = true
 ·rw [if_pos hv]
  by_cases hp : (AH l).all Aq = true
  ·rw [if_pos hp, DL]
   cases hb : BI (AK l 0 0) with
   | some x => exact ⟨by simp, fun t ht => by simp at ht⟩
   | none =>
    simp only [List.nil_append]
    have h1 := GC hv (l.length + 1 - 0) 0 0
    have h2 := Fu hv (l.length + 1 - 0) 0 0 (-1) (by omega) hb
    refine ⟨by rw [List.length_map]; exact h1, fun t ht => ⟨Mi h2 t ht, GY _ _ _ t ht⟩⟩
  ·rw [if_neg hp]; exact ⟨by simp, fun t ht => by simp at ht⟩
 ·rw [if_neg hv]; exact ⟨by simp, fun t ht => by simp at ht⟩
theorem F3 {α : Type} (l : List α) (i : Nat) (d : α) (h : i < l.length) : l.getD i d ∈ l := by
 rw [List.getD, List.getElem?_eq_getElem h]; exact List.getElem_mem h
theorem R5 {x : Hi} (hs : x.s.length <= 100000) (h0 : 0 <= x.ind) (h1 : x.ind <= 8000) (hne : (C0 x.s).1.map Kq ≠ []) : SP ⟨x.no, x.ind, (C0 x.s).1.map Kq⟩ := by
 obtain ⟨b1, b2⟩ := EG x.s
 have hb : ∀ t ∈ (C0 x.s).1.map Kq, 0 <= t.at_ /\ t.at_ <= 100000 /\ t.str.length <= 1000000 := fun t ht => by
  obtain ⟨u, hu, rfl⟩ := List.mem_map.1 ht
  have := b2 u hu
  exact ⟨by show (0 : Int) <= (u.at_ : Int); omega, by show (u.at_ : Int) <= 100000; omega, by show u.str.length <= 1000000; omega⟩
 have hl : 0 < ((C0 x.s).1.map Kq).length := List.length_pos_iff.2 hne
 have h00 := hb _ (F3 _ 0 EK hl)
 exact ⟨hne, ⟨by rw [List.length_map]; show (C0 x.s).1.length <= 1000000; omega, fun q hq => (hb _ (F3 _ q _ hq)).2.2⟩, by show -10000000 <= x.ind - (((C0 x.s).1.map Kq).getD 0 EK).at_; omega, by show x.ind - (((C0 x.s).1.map Kq).getD 0 EK).at_ <= 10000000; omega, fun t ht => by have := hb t ht; omega⟩
theorem N3 : ∀ {l : List Hi} {es : List En}, C7 l = .ok es -> (∀ x ∈ l, x.s.length <= 100000 /\ 0 <= x.ind /\ x.ind <= 8000) -> Gd es /\ Dw es <= (l.map fun x => x.s.length + 1).sum
 | [], es, h, _ => by
  rw [C7] at h; injection h with h; subst h
  exact ⟨(fun x hx => by cases hx), Nat.le_refl _⟩
 | x :: r, es, h, hx => by
  have hfull := (EX h).2.1
  rw [C7] at h
  split at h
  ·cases h
  ·cases hr : C7 r with
   | bad no e => rw [hr] at h; cases h
   | ok es' =>
    rw [hr] at h
    injection h with h
    subst h
    obtain ⟨g1, g2⟩ := N3 hr (fun y hy => hx y (List.mem_cons_of_mem _ hy))
    have h0 := hx x List.mem_cons_self
    refine ⟨fun y hy => ?_, ?_⟩
    ·rcases List.mem_cons.1 hy with rfl | hy
     ·exact R5 h0.1 h0.2.1 h0.2.2 (hfull _ List.mem_cons_self)
     ·exact g1 y hy
    ·rw [AA, List.map_cons, List.sum_cons]
     have := (EG x.s).1
     have e : ((B9 x.s).1).length = (C0 x.s).1.length := List.length_map _
     show ((B9 x.s).1).length + 1 + Dw es' <= _
     omega
end
section
set_option maxRecDepth 100000
set_option maxHeartbeats 4000000
attribute [local go_sem] Oper.semAt_some CA B0
def Ln (x : List Tk × Nat × Nat) (w : World) (e : Ending) (w' : World) : Prop :=
 ∃ v, e = .returned (.tuple #[v, .int .i64 x.2.1, .int .i64 x.2.2]) /\ DX w' v x.1 /\ (∀ A n c, v = .slice A n c -> n <= c) /\ (∀ b o l c, v = .slice (some ⟨b, o, none⟩) l c -> 0 < l -> w.heap.size <= b) /\ Below w.heap.size w w'
theorem KX (N : Nat) : ∀ b o l c, Value.slice none 0 0 = .slice (some ⟨b, o, none⟩) l c -> 0 < l -> N <= b := by
 intro b o l c h
 injection h with h
 cases h
theorem OE (s : ByteArray) (w : World) (hs : s.size <= 1000000) (hv : validD s.data.toList = false) (hT : Bz w) :
  Calls Tryz.prog 39 #[.string s] w (Ln ([], 0, 40) w) := by
 have hR := fun wx hx => Cg s wx hs hx
 rw [hv] at hR
 clear hv
 refine (callsIn_wide (n := 0)).1 ?_
 refine callsIn_of_wp_marks Tryz.func39 rfl trivial ?_ rfl
 refine wpIn_wide.2 ?_
 simp only [Tryz.ntmps39, List.size_toArray, List.length_cons, List.length_nil, Nat.reduceAdd, Nat.reduceSub, Array.replicate_succ, Array.replicate_zero, List.push_toArray, List.append_toArray, List.nil_append, List.cons_append]
 obtain ⟨N, hN⟩ : ∃ N, w.heap.size = N := ⟨_, rfl⟩
 have hb0 : Below N w (((w.alloc (.cells #[.slice none 0 0] 67)).alloc (.cells #[.int .i64 0] 3)).alloc (.cells #[.int .i64 0] 31)) := (((Bq N w).alloc (by omega) _).alloc (by simp; omega) _).alloc (by simp; omega) _
 go_wp2_with fail
 refine (hR _ (hT.below (hN ▸ hb0))).mono ?_
 rintro e w1 ⟨rfl, hb1⟩
 obtain ⟨b0, b1, b2⟩ := F1 w 67 3 31 (.slice none 0 0) (.int .i64 0) (.int .i64 0)
 rw [hN] at b0 b1 b2
 replace b0 := Ac b0 hb1
 replace b1 := Ac b1 hb1
 replace b2 := Ac b2 hb1
 have hb2 := hb0.trans (hb1.mono (by have := hb0.size; omega))
 have c0 := b0.cell; have f0 := b0.frozen
 have c1 := b1.cell; have f1 := b1.frozen
 have c2 := b2.cell; have f2 := b2.frozen
 go_wp2
 obtain ⟨e1, e2, e3, hb3⟩ := NN hb2 b0 b1 b2 (by omega) (.slice none 0 0) (.int .i64 0) (.int .i64 40)
 refine ⟨.tuple #[.slice none 0 0, .int .i64 0, .int .i64 40], by simp [results, Tryz.f39, go_sem, e1, e2, e3], ?_⟩
 exact ⟨_, rfl, DX.nil _, Lh, KX _, by rw [hN]; exact hb3⟩
theorem M0 (s : ByteArray) (w : World) (hs : s.size <= 1000000) (hv : validD s.data.toList = true) (hp : (AH s.data.toList).all Aq = false) (hT : Bz w) :
  Calls Tryz.prog 39 #[.string s] w (Ln ([], 0, 80) w) := by
 have hR := fun wx hx => Cg s wx hs hx
 rw [hv] at hR
 clear hv
 have hC := fun wx => Tryz.strings_ContainsFunc_grows 64 #[] (enters_of Tryz.func64 (by kernel_rfl) rfl) DP s wx (G9 wx)
 rw [K5, hp] at hC
 clear hp
 refine (callsIn_wide (n := 0)).1 ?_
 refine callsIn_of_wp_marks Tryz.func39 rfl trivial ?_ rfl
 refine wpIn_wide.2 ?_
 simp only [Tryz.ntmps39, List.size_toArray, List.length_cons, List.length_nil, Nat.reduceAdd, Nat.reduceSub, Array.replicate_succ, Array.replicate_zero, List.push_toArray, List.append_toArray, List.nil_append, List.cons_append]
 obtain ⟨N, hN⟩ : ∃ N, w.heap.size = N := ⟨_, rfl⟩
 have hb0 : Below N w (((w.alloc (.cells #[.slice none 0 0] 67)).alloc (.cells #[.int .i64 0] 3)).alloc (.cells #[.int .i64 0] 31)) := (((Bq N w).alloc (by omega) _).alloc (by simp; omega) _).alloc (by simp; omega) _
 go_wp2_with fail
 refine (hR _ (hT.below (hN ▸ hb0))).mono ?_
 rintro e w1 ⟨rfl, hb1⟩
 obtain ⟨b0, b1, b2⟩ := F1 w 67 3 31 (.slice none 0 0) (.int .i64 0) (.int .i64 0)
 rw [hN] at b0 b1 b2
 replace b0 := Ac b0 hb1
 replace b1 := Ac b1 hb1
 replace b2 := Ac b2 hb1
 have hb2 := hb0.trans (hb1.mono (by have := hb0.size; omega))
 go_wp2_with fail
 refine (hC _).mono ?_
 rintro e w2 ⟨rfl, hb3⟩
 replace b0 := Ac b0 hb3
 replace b1 := Ac b1 hb3
 replace b2 := Ac b2 hb3
 have hb4 := hb2.trans (hb3.mono (by have := hb2.size; omega))
 clear hb2 hb3 hC hR
 have c0 := b0.cell; have f0 := b0.frozen
 have c1 := b1.cell; have f1 := b1.frozen
 have c2 := b2.cell; have f2 := b2.frozen
 go_wp2
 obtain ⟨e1, e2, e3, hb5⟩ := NN hb4 b0 b1 b2 (by omega) (.slice none 0 0) (.int .i64 0) (.int .i64 80)
 refine ⟨.tuple #[.slice none 0 0, .int .i64 0, .int .i64 80], by simp [results, Tryz.f39, go_sem, e1, e2, e3], ?_⟩
 exact ⟨_, rfl, DX.nil _, Lh, KX _, by rw [hN]; exact hb5⟩
theorem Mz (s : ByteArray) (w : World) (hs : s.size <= 100000) (hv : validD s.data.toList = true) (hp : (AH s.data.toList).all Aq = true) (hT : Bz w) (hE : Cb w) :
  Calls Tryz.prog 39 #[.string s] w (Ln (Gu (AK s.data.toList 0 0) []) w) := by
 have hR := fun wx hx => Cg s wx (by omega) hx
 rw [hv] at hR
 have hC := fun wx => Tryz.strings_ContainsFunc_grows 64 #[] (enters_of Tryz.func64 (by kernel_rfl) rfl) DP s wx (G9 wx)
 rw [K5, hp] at hC
 clear hp
 have hit := fun R Bb n₀ (hN : w.heap.size <= n₀) (hR0 : w.heap.size <= R) (hB : w.heap.size <= Bb) (hne : Bb ≠ R) => Lr s R Bb n₀ w hT hN hR0 hB hne (by omega) hv
 obtain ⟨ps, hps⟩ : ∃ ps, AK s.data.toList 0 0 = ps := ⟨_, rfl⟩
 have hpl : ps.length <= s.size := by rw [<- hps]; have := GC hv (s.data.toList.length + 1 - 0) 0 0; unfold AK; rw [Lib.size_eq]; omega
 rw [hps] at hit |-
 have HPL := hid hpl
 have HIT := hid hit
 clear hpl hps hit hv
 refine (callsIn_wide (n := 0)).1 ?_
 refine callsIn_of_wp_marks Tryz.func39 rfl trivial ?_ rfl
 refine wpIn_wide.2 ?_
 simp only [Tryz.ntmps39, List.size_toArray, List.length_cons, List.length_nil, Nat.reduceAdd, Nat.reduceSub, Array.replicate_succ, Array.replicate_zero, List.push_toArray, List.append_toArray, List.nil_append, List.cons_append]
 obtain ⟨N, hN⟩ : ∃ N, w.heap.size = N := ⟨_, rfl⟩
 have hb0 : Below N w (((w.alloc (.cells #[.slice none 0 0] 67)).alloc (.cells #[.int .i64 0] 3)).alloc (.cells #[.int .i64 0] 31)) := (((Bq N w).alloc (by omega) _).alloc (by simp; omega) _).alloc (by simp; omega) _
 go_wp2_with fail
 refine (hR _ (hT.below (hN ▸ hb0))).mono ?_
 rintro e w1 ⟨rfl, hb1⟩
 obtain ⟨b0, b1, b2⟩ := F1 w 67 3 31 (.slice none 0 0) (.int .i64 0) (.int .i64 0)
 rw [hN] at b0 b1 b2
 replace b0 := Ac b0 hb1
 replace b1 := Ac b1 hb1
 replace b2 := Ac b2 hb1
 have hb2 := hb0.trans (hb1.mono (by have := hb0.size; omega))
 clear hb0 hb1 hR
 go_wp2_with fail
 refine (hC _).mono ?_
 rintro e w2 ⟨rfl, hb3⟩
 replace b0 := Ac b0 hb3
 replace b1 := Ac b1 hb3
 replace b2 := Ac b2 hb3
 have hb4 := hb2.trans (hb3.mono (by have := hb2.size; omega))
 clear hb2 hb3 hC
 obtain ⟨M, hM⟩ : ∃ M, w2.heap.size = M := ⟨_, rfl⟩
 have hNM : N + 1 + 1 < M := by have := b2.lt; omega
 have hb5 : Below N w ((w2.alloc (.cells #[.slice none 0 0] 67)).alloc (.cells #[.string s, .int .i64 0, .int .i64 0] 140)) := (hb4.alloc (by have := hb4.size; omega) _).alloc (by have := hb4.size; simp; omega) _
 have bo : Boxed ((w2.alloc (.cells #[.slice none 0 0] 67)).alloc (.cells #[.string s, .int .i64 0, .int .i64 0] 140)) M 67 (.slice none 0 0) := by rw [<- hM]; exact (Boxed.new w2 _ _).alloc _
 have hr : RA ((w2.alloc (.cells #[.slice none 0 0] 67)).alloc (.cells #[.string s, .int .i64 0, .int .i64 0] 140)) (M + 1) s 0 0 := by
  have := Wn (w2.alloc (.cells #[.slice none 0 0] 67)) (.cells #[.string s, .int .i64 0, .int .i64 0] 140)
  rw [World.size_alloc, hM] at this
  exact this
 replace b0 := (b0.alloc (.cells #[.slice none 0 0] 67)).alloc (.cells #[.string s, .int .i64 0, .int .i64 0] 140)
 replace b1 := (b1.alloc (.cells #[.slice none 0 0] 67)).alloc (.cells #[.string s, .int .i64 0, .int .i64 0] 140)
 replace b2 := (b2.alloc (.cells #[.slice none 0 0] 67)).alloc (.cells #[.string s, .int .i64 0, .int .i64 0] 140)
 have hz3 : ((w2.alloc (.cells #[.slice none 0 0] 67)).alloc (.cells #[.string s, .int .i64 0, .int .i64 0] 140)).heap.size = M + 1 + 1 := by simp [hM]
 obtain ⟨w3, hw3⟩ : ∃ w3, (w2.alloc (.cells #[.slice none 0 0] 67)).alloc (.cells #[.string s, .int .i64 0, .int .i64 0] 140) = w3 := ⟨_, rfl⟩
 rw [hw3] at hb5 b0 b1 b2 bo hr hz3
 have HW3 := hid hw3
 clear hw3 hb4
 go_wp2_with fail
 refine (Mh (M + 1) _).mono ?_
 rintro e w4 ⟨rfl, hw4⟩
 rw [show (w2.alloc (.cells #[.slice none 0 0] 67)).alloc (.cells #[.string s, .int .i64 0, .int .i64 0] 140) = w3 from HW3.out] at hw4 |-
 rw [hz3]
 have hz4 : w4.heap.size = M + 1 + 1 + 1 := by rw [hw4]; simp [hz3]
 have hBox : Boxed w4 (M + 1 + 1) 136 (.pointer (some ⟨M + 1, 0, none⟩)) := by rw [hw4, <- hz3]; exact Boxed.new _ _ _
 have hb6 : Below N w w4 := by rw [hw4]; exact hb5.alloc (by have := hb5.size; omega) _
 replace hr : RA w4 (M + 1) s 0 0 := by rw [hw4]; exact hr.alloc _
 replace bo : Boxed w4 M 67 (.slice none 0 0) := by rw [hw4]; exact bo.alloc _
 replace b0 : Boxed w4 N 67 (.slice none 0 0) := by rw [hw4]; exact b0.alloc _
 replace b1 : Boxed w4 (N + 1) 3 (.int .i64 0) := by rw [hw4]; exact b1.alloc _
 replace b2 : Boxed w4 (N + 1 + 1) 31 (.int .i64 0) := by rw [hw4]; exact b2.alloc _
 clear hw4 hb5
 go_wp2
 refine (wpIn_wide (n := 0)).1 ?_
 refine Jk (gf := 102) (lb := #[.pointer (some ⟨M + 1 + 1, 0, none⟩)]) rfl (enters_of Tryz.func102 (by kernel_rfl) rfl) (HIT.out (M + 1) (M + 1 + 1) N (by omega) (by omega) (by omega) (by omega))
  (fun Y hY => ⟨hr.below hY, Ac hBox hY, hN ▸ hb6.trans (hY.mono (by have := hb6.size; omega))⟩) (fun k hk => by omega) (by omega) (fun x => by cases x <;> rfl)
  (fun pre W => ∃ v ts, Hid (BI pre = none /\ ts = pre.map Hm) /\ Boxed W M 67 v /\ Fp W (M + 1) v ts /\ AW W (M + 1) 140 /\ AW W (M + 1 + 1) 136 /\ Boxed W N 67 (.slice none 0 0) /\ Boxed W (N + 1) 3 (.int .i64 0) /\ Boxed W (N + 1 + 1) 31 (.int .i64 0) /\ Below N w W /\ M + 1 + 1 < W.heap.size)
  (fun co pre W => co = .ret /\ ∃ p e : Nat, Hid (Gu ps [] = ([], p, e)) /\ Boxed W N 67 (.slice none 0 0) /\ Boxed W (N + 1) 3 (.int .i64 p) /\ Boxed W (N + 1 + 1) 31 (.int .i64 e) /\ Below N w W)
  ?hI ?hIx ?hbad ⟨.slice none 0 0, [], hid ⟨rfl, rfl⟩, bo, ⟨rfl, .inl ⟨rfl, rfl⟩⟩, ⟨_, _, hr⟩, ⟨_, _, hBox⟩, b0, b1, b2, hb6, by omega⟩ ?round ?done ?stop
 case hI =>
  rintro pre X Y ⟨v, ts, h1, h2, h3, k1, k2, h4, h5, h6, h7, h8⟩ ht
  exact ⟨v, ts, h1, Ah h2 ht (by omega), h3.turn ht (fun k hk => by rcases hk with rfl | rfl; exact ⟨_, by decide, k2⟩; exact ⟨_, by decide, k1⟩), k1.turn ht, k2.turn ht,
   Ah h4 ht (by omega), Ah h5 ht (by omega), Ah h6 ht (by omega), ht.below h7 (fun k hk => by omega) (by omega) (by omega), Nat.lt_of_lt_of_le h8 ht.size⟩
 case hIx =>
  rintro co pre X Y ⟨h1, p, e, h2, h3, h4, h5, h6⟩ ht
  exact ⟨h1, p, e, h2, Ah h3 ht (by omega), Ah h4 ht (by omega), Ah h5 ht (by omega), ht.below h6 (fun k hk => by omega) (by omega) (by omega)⟩
 case hbad =>
  rintro pre X hb ⟨v, ts, h1, _⟩
  exact hb h1.out.1
 case round =>
  rintro l pre x W hl ⟨v, ts, h1, h2, h3, k1, k2, h4, h5, h6, h7, h8⟩ hpre
  have HPR := hid hpre
  clear hpre
  cases x with
  | tok k t p =>
   unfold R2 BP
   gi_wp2
   refine ⟨Ag.alloc W _, fun Wb ht _ => ?_⟩
   have hta : Af (fun k => k = M + 1 + 1 \/ k = M + 1) w4.heap.size W Wb := (Af.alloc W _).trans ht
   have hTB : Wb.heap[W.heap.size]? = some (.cells #[.int .i64 k, .string ⟨t.toArray⟩, .int .i64 p] 116) := ht.heap (Wn W _) (fun hc => by omega) rfl
   have hkp : Ag Av (fun k => k = M + 1 + 1 \/ k = M + 1) N Wb Wb := Ag.refl _ _ _ _
   have hkC : ∀ j, (j = M + 1 + 1 \/ j = M + 1) -> ∃ T, T ≠ 116 /\ AW W j T := fun j hj => by rcases hj with rfl | rfl; exact ⟨_, by decide, k2⟩; exact ⟨_, by decide, k1⟩
   replace h2 := Ah h2 hta (by omega)
   replace h3 := h3.turn hta hkC
   replace h4 := Ah h4 hta (by omega)
   replace h5 := Ah h5 hta (by omega)
   replace h6 := Ah h6 hta (by omega)
   replace h7 := hta.below h7 (fun k hk => by omega) (by omega) (by omega)
   replace k1 := k1.turn hta
   replace k2 := k2.turn hta
   have hWz : W.heap.size <= Wb.heap.size := hta.size
   replace h8 := Nat.lt_of_lt_of_le h8 hta.size
   clear ht hta hkC
   obtain ⟨i0, hi, hz0, hz1, hz2⟩ := info_parts RT
   have hu : Tryz.prog.underlying 67 = some (.slice 116) := by kernel_rfl
   have HU := hid hu
   clear hu
   obtain ⟨t0, t1, t2, _⟩ := Az hTB
   have c1 := h2.cell; have f1 := h2.frozen
   have hTl : W.heap.size < Wb.heap.size := (Gl hTB)
   have hMl : M < Wb.heap.size := by omega
   have htl : ts.length <= 100000 := by
    have e1 := HPR.out.length_le
    have e2 := HPL.out
    rw [h1.out.2, List.length_map]
    simp at e1
    omega
   have hown0 : Wb.ownsRow (M + 1) 116 3 v ts.length (ts.flatMap BY) := h3
   gi_wp2_with (first
    | (gi_at_builtin; refine wpListIn_append_own _ rfl _ _ 67 rfl (M + 1) 116 i0 (.agg #[.int .i64 0, .string ⟨#[]⟩, .int .i64 0]) 3 32 HU.out hi hz0 hz1 hz2 rfl (by decide) _ _ _ rfl (hown0.alloc _) ⟨Wb.heap.size, 0, none⟩ 1 1 [.int .i64 k, .string ⟨t.toArray⟩, .int .i64 p] rfl rfl ?c1 ?c2 ?c3 ?c4 ?c5 ?_))
   case c1 =>
    intro j u hj
    match j, hj with
    | 0, hj => simp at hj; subst hj; simp [Addr.add]
    | 1, hj => simp at hj; subst hj; simp [Addr.add]
    | 2, hj => simp at hj; subst hj; simp [Addr.add]
   case c2 => intro u hu; simp at hu; rcases hu with rfl | rfl | rfl <;> rfl
   case c3 => unfold maxLen; omega
   case c4 => omega
   case c5 => simp; omega
   intro v' w5 hown hgrow _
   obtain ⟨q1, q2, q3, q4, q5, q6, q7⟩ := TE (C := fun k => k = M + 1 + 1 \/ k = M + 1) (N := N) (M := M) (x := ⟨k, t, p⟩) (by omega) (by omega) (by omega) (by omega) h2 h3 (fun j hj => by rcases hj with rfl | rfl; exact ⟨_, by decide, k2⟩; exact ⟨_, by decide, k1⟩) hown hgrow
   have FIN := hid (show Ag Av (fun k => k = M + 1 + 1 \/ k = M + 1) N Wb (w5.setCell ⟨M, 0, none⟩ v') /\ ∃ v ts, Hid (BI (pre ++ [TP.tok k t p]) = none /\ ts = (pre ++ [TP.tok k t p]).map Hm) /\ Boxed (w5.setCell ⟨M, 0, none⟩ v') M 67 v /\ Fp (w5.setCell ⟨M, 0, none⟩ v') (M + 1) v ts /\ AW (w5.setCell ⟨M, 0, none⟩ v') (M + 1) 140 /\ AW (w5.setCell ⟨M, 0, none⟩ v') (M + 1 + 1) 136 /\ Boxed (w5.setCell ⟨M, 0, none⟩ v') N 67 (.slice none 0 0) /\ Boxed (w5.setCell ⟨M, 0, none⟩ v') (N + 1) 3 (.int .i64 0) /\ Boxed (w5.setCell ⟨M, 0, none⟩ v') (N + 1 + 1) 31 (.int .i64 0) /\ Below N w (w5.setCell ⟨M, 0, none⟩ v') /\ M + 1 + 1 < (w5.setCell ⟨M, 0, none⟩ v').heap.size from
    ⟨q1, v', ts ++ [⟨k, t, p⟩], hid ⟨by rw [IM]; exact h1.out.1, by rw [List.map_append, h1.out.2]; rfl⟩, q2, q3, q7 _ _ (by decide) (by omega) k1, q7 _ _ (by decide) (by omega) k2, q6 N _ _ (by decide) (by omega) h4, q6 (N + 1) _ _ (by decide) (by omega) h5, q6 (N + 1 + 1) _ _ (by decide) (by omega) h6, q1.below h7 Nr (by omega), Nat.lt_of_lt_of_le h8 q1.size⟩)
   obtain ⟨g, cap, rfl⟩ : ∃ g cap, v' = .slice (some ⟨g, 0, none⟩) (ts.length + 1) cap := by
    rcases hown.2 with ⟨_, h0⟩ | ⟨g, cap, cur, hv, _⟩
    ·omega
    ·exact ⟨g, cap, hv⟩
   clear q1 q2 q3 q6 q7 hown hgrow h1 h2 h3 k1 k2 h4 h5 h6 h7 hown0 c1 f1 t0 t1 t2 hTB
   gi_wp2
   exact FIN.out
  | bad er p =>
   have HF := hid (show Gu ps [] = ([], p, er) by
    obtain ⟨rest, hrest⟩ := HPR.out
    rw [<- hrest, DL, List.append_assoc, IY _ _ h1.out.1]; rfl)
   unfold R2
   gi_wp2
   refine ⟨Ag.alloc W _, fun Wb ht _ => ?_⟩
   have hta : Af (fun k => k = M + 1 + 1 \/ k = M + 1) w4.heap.size W Wb := (Af.alloc W _).trans ht
   have hTB : Wb.heap[W.heap.size]? = some (.cells #[.int .i64 0, .string ⟨#[]⟩, .int .i64 p] 116) := ht.heap (Wn W _) (fun hc => by omega) rfl
   replace h4 := Ah h4 hta (by omega)
   replace h5 := Ah h5 hta (by omega)
   replace h6 := Ah h6 hta (by omega)
   replace h7 := hta.below h7 (fun k hk => by omega) (by omega) (by omega)
   have hWz : W.heap.size <= Wb.heap.size := hta.size
   have hTl : W.heap.size < Wb.heap.size := (Gl hTB)
   have STR := CallsIn.inRound l ((callsIn_wide (n := 0)).2 (told_any er Wb.drew ((hE.below (hN ▸ h7)).below (Bq _ _).drew)))
   have fin : ∀ w5, Below Wb.heap.size Wb w5 -> w5.cell? ⟨W.heap.size, 2, none⟩ = some (.int .i64 p) /\ Boxed w5 N 67 (.slice none 0 0) /\ Boxed w5 (N + 1) 3 (.int .i64 0) /\ Boxed w5 (N + 1 + 1) 31 (.int .i64 0) /\ Below N w w5 /\ W.heap.size < w5.heap.size /\ Ag Av (fun k => k = M + 1 + 1 \/ k = M + 1) N Wb w5 := fun w5 hb =>
    ⟨(Az (Aa hTB hb)).2.2.1, Ac h4 hb, Ac h5 hb, Ac h6 hb, h7.trans (hb.mono (by omega)), Nat.lt_of_lt_of_le hTl hb.size, Ag.of_below hb⟩
   have FIN := hid fin
   have t2 := (Az hTB).2.2.1
   have c1 := h4.cell; have f1 := h4.frozen
   have c2 := h5.cell; have f2 := h5.frozen
   have c3 := h6.cell; have f3 := h6.frozen
   have hd1 : W.heap.size ≠ N := by omega
   have hd2 : W.heap.size ≠ N + 1 := by omega
   have hd3 : W.heap.size ≠ N + 1 + 1 := by omega
   clear fin h1 h2 h3 k1 k2 ht hta hTB h4 h5 h6 h7
   gi_wp2
   gi_region_with ((gi_at_call 67; refine STR.mono ?_; rintro e w5 ⟨rfl, hb⟩; obtain ⟨e0, e1, e2, e3, e4, e5, e6⟩ := FIN.out w5 ⟨hb.os, hb.tape, hb.output, hb.size, hb.block⟩; have cc1 := e1.cell; have ff1 := e1.frozen; have cc2 := e2.cell; have ff2 := e2.frozen; have cc3 := e3.cell; have ff3 := e3.frozen))
   all_goals (gi_wp2; exact (by
    obtain ⟨q1, q2, q3, q4⟩ := Ev (C := fun k => k = M + 1 + 1 \/ k = M + 1) e1 e2 e3 (by omega) (by omega) (by omega) (.slice none 0 0) (.int .i64 p) (.int .i64 er)
    exact ⟨e6.trans q1, rfl, p, er, HF, q2, q3, q4, ((e4.setCell (p := ⟨N, 0, none⟩) (by simp) _).setCell (p := ⟨N + 1, 0, none⟩) (by simp) _).setCell (p := ⟨N + 1 + 1, 0, none⟩) (by simp; omega) _⟩))
 case done =>
  rintro D W hD ⟨v, ts, h1, h2, h3, k1, k2, h4, h5, h6, h7, h8⟩ hK
  obtain ⟨A, cap, rfl⟩ : ∃ A cap, v = .slice A ts.length cap := by
   rcases h3.2 with ⟨hv, h0⟩ | ⟨g, cap, cur, hv, _⟩
   ·exact ⟨none, 0, by rw [hv, h0]⟩
   ·exact ⟨_, cap, hv⟩
  have c2 := h2.cell; have f2 := h2.frozen
  have c3 := h4.cell; have f3 := h4.frozen
  have c4 := h5.cell; have f4 := h5.frozen
  have c5 := h6.cell; have f5 := h6.frozen
  have HF := hid (show Gu ps [] = (ts, 0, 0) by rw [DL, h1.out.1, h1.out.2]; rfl)
  clear h1 k1 k2
  have hne : M ≠ N := by omega
  have hne1 : M ≠ N + 1 := by omega
  have hne2 : M ≠ N + 1 + 1 := by omega
  go_wp2
  have hK' : (((W.setCell ⟨N, 0, none⟩ (.slice A ts.length cap)).setCell ⟨N + 1, 0, none⟩ (.int .i64 0)).setCell ⟨N + 1 + 1, 0, none⟩ (.int .i64 0)).heap[D]? = some (.deferred (some [])) := (KeepsOthers.setCell _ _ _).same D _ ((KeepsOthers.setCell _ _ _).same D _ ((KeepsOthers.setCell W ⟨N, 0, none⟩ _).same D _ hK rfl) rfl) rfl
  refine ⟨by simp, .inl ⟨_, _, rfl, run_takeDeferred hK', ?_⟩⟩
  have d1 := (Ar (An (An (h4.set (.slice A ts.length cap)) (show N ≠ N + 1 by simp) (.int .i64 0)) (show N ≠ N + 1 + 1 by simp; omega) (.int .i64 0)) hK' (.deferred none)).cell
  have d2 := (Ar (An ((An h5 (show N + 1 ≠ N by simp) (.slice A ts.length cap)).set (.int .i64 0)) (show N + 1 ≠ N + 1 + 1 by simp) (.int .i64 0)) hK' (.deferred none)).cell
  have d3 := (Ar ((An (An h6 (show N + 1 + 1 ≠ N by simp; omega) (.slice A ts.length cap)) (show N + 1 + 1 ≠ N + 1 by simp) (.int .i64 0)).set (.int .i64 0)) hK' (.deferred none)).cell
  refine ⟨.tuple #[.slice A ts.length cap, .int .i64 0, .int .i64 0], by simp [results, Tryz.f39, go_sem, d1, d2, d3], ?_⟩
  rw [HF.out]
  refine ⟨_, rfl, Fp.sl (B := M + 1) (Fp.keep h3 (fun j c hj => ?_)), h3.cap, ?_, ?_⟩
  ·refine (World.putObj_heap_other (fun e => by subst e; rw [hK] at hj; cases hj)).trans ?_
   exact (Bh _ ⟨N + 1 + 1, 0, none⟩ _ j (OF hj h6 (by decide))).trans ((Bh _ ⟨N + 1, 0, none⟩ _ j (OF hj h5 (by decide))).trans ((Bh W ⟨N, 0, none⟩ _ j (OF hj h4 (by decide))).trans hj))
  ·intro b o l c hv hl
   rcases h3.2 with ⟨hv2, h0⟩ | ⟨g, cap2, cur, hv2, hg, _⟩
   ·rw [hv2] at hv; cases hv
   ·rw [hv2] at hv; injection hv with e1; injection e1 with e1; injection e1 with e1 _; rw [hN]; omega
  ·rw [hN]; exact Cp (((h7.setCell (p := ⟨N, 0, none⟩) (by simp) _).setCell (p := ⟨N + 1, 0, none⟩) (by simp) _).setCell (p := ⟨N + 1 + 1, 0, none⟩) (by simp; omega) _) hK' (by omega) (by omega) _
 case stop =>
  rintro D co pre W hD hpre ⟨rfl, p, e, hx, h3, h4, h5, h6⟩ hK
  refine wpIn_wide.2 ?_
  go_wp2
  refine ⟨by simp, .inl ⟨_, _, rfl, run_takeDeferred hK, ?_⟩⟩
  have d1 := (Ar h3 hK (.deferred none)).cell
  have d2 := (Ar h4 hK (.deferred none)).cell
  have d3 := (Ar h5 hK (.deferred none)).cell
  refine ⟨.tuple #[.slice none 0 0, .int .i64 p, .int .i64 e], by simp [results, Tryz.f39, go_sem, d1, d2, d3], ?_⟩
  rw [hx.out]
  refine ⟨_, rfl, DX.nil _, Lh, KX _, ?_⟩
  rw [hN]; exact Cp h6 hK (by omega) (by omega) _
theorem Oc (s : ByteArray) (w : World) (hs : s.size <= 100000) (hT : Bz w) (hE : Cb w) :
  Calls Tryz.prog 39 #[.string s] w (Ln (C0 s.data.toList) w) := by
 unfold C0
 cases hv : validD s.data.toList with
 | false => exact OE s w (by omega) hv hT
 | true =>
  rw [if_pos rfl]
  cases hp : (AH s.data.toList).all Aq with
  | false => exact M0 s w (by omega) hv hp hT
  | true => exact Mz s w hs hv hp hT hE
end
end Go.Proofs.YtaogfdffgdglkaaGreatDoor
