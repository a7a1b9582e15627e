/- What is proved: a part of the walk of the program and of its plain laws; no condition beside those that each theorem names. -/
import Derived.Test.YtaogfdffgdglkaaGreatDoorYg
import Derived.Test.YtaogfdffgdglkaaGreatDoorYa
import Derived.Stop.RegionWithIn
namespace Go.Proofs.YtaogfdffgdglkaaGreatDoor
open Go Go.RowKit Go.Lib
set_option linter.unusedSimpArgs false
set_option linter.unusedVariables false
section
set_option maxRecDepth 100000
set_option maxHeartbeats 4000000
attribute [local go_sem] Oper.semAt_some CA B0
theorem Nz (v : Value) (w : World) : (Instr.typeAssert (.iface 293 v) 289 293 true).run Tryz.prog w = .ok (.tuple #[v, .bool true]) w := by kernel_rfl
theorem Ng (v : Value) (w : World) : (Instr.typeAssert (.iface 295 v) 289 293 true).run Tryz.prog w = .ok (.tuple #[.agg #[.int .i64 0], .bool false]) w := by kernel_rfl
theorem Ny (v : Value) (w : World) : (Instr.typeAssert (.iface 295 v) 289 295 true).run Tryz.prog w = .ok (.tuple #[v, .bool true]) w := by kernel_rfl
theorem Im (s : ByteArray) (q : Int) : ∀ (f i : Nat) (r : Int) (tq : Nat), i <= s.size -> (i < s.size -> validD (s.data.toList.drop i) = true) -> QP.sign r tq ∈ B8 s q f i -> Lib.validRune r = true
 | 0, _, _, _, _, _, h => by simp [B8] at h
 | f + 1, i, r, tq, hi, hv, h => by
  unfold B8 at h
  cases ho : CP s q i with
  | fin to2 => rw [ho] at h; simp at h
  | bad e => rw [ho] at h; simp at h
  | sign r2 to2 =>
   rw [ho] at h
   obtain ⟨_, _, h3, h4, h5⟩ := Eu hi hv ho
   rcases List.mem_cons.1 h with e | h
   ·injection e with e1 e2; subst e1; exact h5
   ·exact Im s q f to2 r tq h3 h4 h
theorem Fd (s : ByteArray) (q : Int) : ∀ (f i : Nat), (B8 s q f i).length <= f
 | 0, _ => by simp [B8]
 | f + 1, i => by
  unfold B8
  cases CP s q i with
  | fin to2 => simp
  | bad e => simp
  | sign r2 to2 => simp [Fd s q f to2]
theorem Lf {r : Int} (h : Lib.validRune r = true) : 0 <= r /\ r <= 1114111 := by
 unfold Lib.validRune at h; rw [decide_eq_true_eq] at h; omega
theorem O0 (pre : List QP) (r : Int) (tq : Nat) (acc : List UInt8) (h : ∀ rest, C8 (pre ++ rest) [] = C8 rest acc) (rest : List QP) : C8 ((pre ++ [.sign r tq]) ++ rest) [] = C8 rest (acc ++ encodeRune r) := by
 rw [List.append_assoc, h]; rfl
theorem G5 {B b : Nat} {bs : List Value} {w : World} (h : Lib.IsBuilderF TB T8 B b bs w) : AW w b TB := by
 rcases h with ⟨_, v, h, _⟩ | ⟨_, v, h, _⟩ <;> exact ⟨_, _, h⟩
theorem Em {X Y : World} {k B : Nat} {t : TypeId} {v : Value} (h : Boxed X k t v) (hb : Below B X Y) (hk : k < B) : Boxed Y k t v := (hb.block k hk).trans h
theorem Ev {C : Nat -> Prop} {W : World} {N : Nat} {t0 t1 t2 : TypeId} {u0 u1 u2 : Value} (b0 : Boxed W N t0 u0) (b1 : Boxed W (N + 1) t1 u1) (b2 : Boxed W (N + 1 + 1) t2 u2) (h0 : ¬ C N) (h1 : ¬ C (N + 1)) (h2 : ¬ C (N + 1 + 1)) (v0 v1 v2 : Value) :
  Ag Av C N W (((W.setCell ⟨N, 0, none⟩ v0).setCell ⟨N + 1, 0, none⟩ v1).setCell ⟨N + 1 + 1, 0, none⟩ v2) /\ Boxed (((W.setCell ⟨N, 0, none⟩ v0).setCell ⟨N + 1, 0, none⟩ v1).setCell ⟨N + 1 + 1, 0, none⟩ v2) N t0 v0 /\ Boxed (((W.setCell ⟨N, 0, none⟩ v0).setCell ⟨N + 1, 0, none⟩ v1).setCell ⟨N + 1 + 1, 0, none⟩ v2) (N + 1) t1 v1 /\ Boxed (((W.setCell ⟨N, 0, none⟩ v0).setCell ⟨N + 1, 0, none⟩ v1).setCell ⟨N + 1 + 1, 0, none⟩ v2) (N + 1 + 1) t2 v2 :=
 ⟨((Ag.setCell W ⟨N, 0, none⟩ v0 Nr h0).trans (Ag.setCell _ ⟨N + 1, 0, none⟩ v1 (by simp) h1)).trans (Ag.setCell _ ⟨N + 1 + 1, 0, none⟩ v2 (by simp; omega) h2),
  An (An (b0.set v0) (by simp) v1) (by simp; omega) v2, An ((An b1 (by simp) v0).set v1) (by simp) v2, (An (An b2 (by simp; omega) v0) (by simp) v1).set v2⟩
theorem PZ (s : ByteArray) (n : Nat) (hn : n < s.size) (q : Int) (hcq : (((s[n]'hn).toNat : Nat) : Int) = q) (hq : q = 34 \/ q = 39) (w : World) (hs : s.size <= 1000000) (hv : validD s.data.toList = true) (hv1 : n + 1 < s.size -> validD (s.data.toList.drop (n + 1)) = true) (hT : Bz w) :
  Calls Tryz.prog 172 #[.string s, .int .i64 n] w fun e w' => e = .returned (EU (C8 (AT s q (n + 1)) [])) /\ Below w.heap.size w w' := by
 have hR := fun wx hx => Cg s wx hs hx
 rw [hv] at hR
 clear hv
 have HV1 := hid hv1
 clear hv1
 have hz0 : n + 1 <= s.size := hn
 have hit := fun Br Bi n₀ (hN : w.heap.size <= n₀) (hBi : w.heap.size <= Bi) (hne : Br ≠ Bi) => MS s q hq (n + 1) Br Bi n₀ w hT hN hBi hne hs hz0 HV1.out
 obtain ⟨ps, hps⟩ : ∃ ps, AT s q (n + 1) = ps := ⟨_, rfl⟩
 have hmem : ∀ r tq, QP.sign r tq ∈ ps -> Lib.validRune r = true := fun r tq h => by
  rw [<- hps] at h; exact Im s _ _ _ r tq hz0 HV1.out h
 have hpl : ps.length <= s.size := by rw [<- hps]; have := Fd s q (s.size + 1 - (n + 1)) (n + 1); unfold AT; omega
 rw [hps] at hit |-
 have HPS := hid (Ai hmem hpl)
 have HIT := hid hit
 clear hmem hpl hps hit HV1
 refine (callsIn_wide (n := 0)).1 ?_
 refine callsIn_of_wp_marks Tryz.func172 rfl trivial ?_ rfl
 refine wpIn_wide.2 ?_
 simp only [Tryz.ntmps172, List.size_toArray, List.length_cons, List.length_nil, Nat.reduceAdd, Nat.reduceSub, Array.replicate_succ, Array.replicate_zero, List.push_toArray, List.append_toArray, List.nil_append, List.cons_append]
 obtain ⟨N, hN⟩ : ∃ N, w.heap.size = N := ⟨_, rfl⟩
 have hb0 : Below N w (((w.alloc (.cells #[.string ⟨#[]⟩] 9)).alloc (.cells #[.int .i64 0] 3)).alloc (.cells #[.int .i64 0] 31)) := (((Bq N w).alloc (by omega) _).alloc (by simp; omega) _).alloc (by simp; omega) _
 go_wp2_with fail
 refine (hR _ (hT.below (hN ▸ hb0))).mono ?_
 rintro e w1 ⟨rfl, hb1⟩
 obtain ⟨b0, b1, b2⟩ := F1 w 9 3 31 (.string ⟨#[]⟩) (.int .i64 0) (.int .i64 0)
 rw [hN] at b0 b1 b2
 replace b0 := Ac b0 hb1
 replace b1 := Ac b1 hb1
 replace b2 := Ac b2 hb1
 have hb2 := hb0.trans (hb1.mono (by have := hb0.size; omega))
 clear hb0 hb1 hR
 have h0 : ¬ (n : Int) < 0 := by omega
 have h1 : (n : Int) < (s.size : Int) := by omega
 have hQ := fun wx => DC q [34, 39] 2 2 wx rfl (by decide)
 rw [show BT [34, 39] q = true by rcases hq with rfl | rfl <;> rfl] at hQ
 obtain ⟨c, hc⟩ : ∃ c, s[n]'hn = c := ⟨_, rfl⟩
 rw [hc] at hcq
 have hc256 : (c.toNat : Int) < 256 := by have := c.toNat_lt; omega
 have HQQ := hid hq
 clear hq
 subst hcq
 have HC := hid hc
 go_wp2_with fail
 refine (hQ _).mono ?_
 rintro e w2 ⟨rfl, hb3⟩
 clear hQ
 replace b0 := Ac b0 hb3
 replace b1 := Ac b1 hb3
 replace b2 := Ac b2 hb3
 have hb4 := hb2.trans (hb3.mono (by have := hb2.size; omega))
 clear hb2 hb3
 obtain ⟨M, hM⟩ : ∃ M, w2.heap.size = M := ⟨_, rfl⟩
 have hNM : N + 1 + 1 < M := by have := b2.lt; omega
 have hI0 : Lib.IsBuilderF TB T8 M M [] (w2.alloc (.cells #[.pointer none, .slice none 0 0] TB)) := .inl ⟨Nat.le_refl _, .slice none 0 0, by rw [<- hM]; exact Wn _ _, World.ownsRowF_nil _ _ _ _, by simp [Value.ownBlock]⟩
 have hb5 : Below N w (w2.alloc (.cells #[.pointer none, .slice none 0 0] TB)) := hb4.alloc (by have := hb4.size; omega) _
 replace b0 := b0.alloc (.cells #[.pointer none, .slice none 0 0] TB)
 replace b1 := b1.alloc (.cells #[.pointer none, .slice none 0 0] TB)
 replace b2 := b2.alloc (.cells #[.pointer none, .slice none 0 0] TB)
 have hz3 : (w2.alloc (.cells #[.pointer none, .slice none 0 0] TB)).heap.size = M + 1 := by simp [hM]
 obtain ⟨w3, hw3⟩ : ∃ w3, w2.alloc (.cells #[.pointer none, .slice none 0 0] TB) = w3 := ⟨_, rfl⟩
 rw [hw3] at hI0 hb5 b0 b1 b2 hz3
 have HW3 := hid hw3
 clear hw3
 go_wp2_with fail
 refine (Ol s (c.toNat : Int) (n + 1) _).mono ?_
 rintro e w4 ⟨rfl, hw4⟩
 clear hc
 rw [show w2.alloc (.cells #[.pointer none, .slice none 0 0] 92) = w3 from HW3.out] at hw4 |-
 rw [hz3]
 have hz4 : w4.heap.size = M + 1 + 1 + 1 := by rw [hw4]; simp [hz3]
 have hR4 : CY w4 (M + 1) s (c.toNat : Int) := by
  rw [hw4, <- hz3]
  exact CY.below (Wn _ _) ((Bq _ _).alloc Nr _)
 have hI4 : Boxed w4 (M + 1 + 1) 3 (.int .i64 ((n + 1 : Nat) : Int)) := by
  have := Boxed.new (w3.alloc (.cells #[.string s, .int .i32 (c.toNat : Int)] 286)) 3 (.int .i64 ((n + 1 : Nat) : Int))
  rw [World.size_alloc, hz3] at this
  rw [hw4]; exact this
 have hb6 : Below N w w4 := by rw [hw4]; exact (hb5.alloc (by have := hb5.size; omega) _).alloc (by have := hb5.size; simp; omega) _
 replace b0 : Boxed w4 N 9 (.string ⟨#[]⟩) := by rw [hw4]; exact (b0.alloc _).alloc _
 replace b1 : Boxed w4 (N + 1) 3 (.int .i64 0) := by rw [hw4]; exact (b1.alloc _).alloc _
 replace b2 : Boxed w4 (N + 1 + 1) 31 (.int .i64 0) := by rw [hw4]; exact (b2.alloc _).alloc _
 replace hI0 : Lib.IsBuilderF TB T8 M M [] w4 := by rw [hw4]; exact (hI0.alloc _).alloc _
 clear hw4 hb5 hb4
 go_wp2
 have HC1 : c.toNat = 34 \/ c.toNat = 39 := by have := HQQ.out; omega
 refine (wpIn_wide (n := 0)).1 ?_
 refine Dm (gf := 205) (lb := #[.pointer (some ⟨M + 1, 0, none⟩), .pointer (some ⟨M + 1 + 1, 0, none⟩)]) rfl (enters_of Tryz.func205 (by kernel_rfl) rfl) (HIT.out (M + 1) (M + 1 + 1) N (by omega) (by omega) (by omega))
  (fun Y hY => ⟨hR4.below hY, Ac hI4 hY, hN ▸ hb6.trans (hY.mono (by have := hb6.size; omega))⟩) (fun k hk => by omega) (by omega) (fun _ => rfl)
  (fun pre W => ∃ acc, Hid (acc.length <= 4 * pre.length /\ ∀ rest, C8 (pre ++ rest) [] = C8 rest acc) /\ Lib.IsBuilderF TB T8 M M (Lib.byteCells acc) W /\ AW W (M + 1) 286 /\ AW W (M + 1 + 1) 3 /\ Boxed W N 9 (.string ⟨#[]⟩) /\ Boxed W (N + 1) 3 (.int .i64 0) /\ Boxed W (N + 1 + 1) 31 (.int .i64 0) /\ Below N w W /\ M + 1 + 1 < W.heap.size)
  (fun co pre W => co = .ret /\ ∃ x, Hid (C8 ps [] = x) /\ Boxed W N 9 (.string ⟨x.1.toArray⟩) /\ Boxed W (N + 1) 3 (.int .i64 x.2.1) /\ Boxed W (N + 1 + 1) 31 (.int .i64 x.2.2) /\ Below N w W)
  ?hI ?hIx ⟨[], hid ⟨by simp, fun _ => rfl⟩, hI0, ⟨_, _, hR4⟩, ⟨_, _, hI4⟩, b0, b1, b2, hb6, by omega⟩ ?round ?done ?stop
 case hI =>
  rintro pre X Y ⟨acc, h1, h2, k1, k2, h3, h4, h5, h6, h7⟩ ht
  exact ⟨acc, h1, IsBuilderF.turn h2 ht (fun k hk => by rcases hk with rfl | rfl; exact ⟨_, by decide, by decide, k1⟩; exact ⟨_, by decide, by decide, k2⟩), k1.turn ht, k2.turn ht,
   Ah h3 ht (by omega), Ah h4 ht (by omega), Ah h5 ht (by omega), ht.below h6 (fun k hk => by omega) (by omega) (by omega), Nat.lt_of_lt_of_le h7 ht.size⟩
 case hIx =>
  rintro co pre X Y ⟨h1, x, h2, h3, h4, h5, h6⟩ ht
  exact ⟨h1, x, h2, Ah h3 ht (by omega), Ah h4 ht (by omega), Ah h5 ht (by omega), ht.below h6 (fun k hk => by omega) (by omega) (by omega)⟩
 case round =>
  rintro l pre x W hl ⟨acc, h1, h2, k1, k2, h3, h4, h5, h6, h7⟩ hpre
  gi_wp2
  refine ⟨Ag.refl _ _ _ _, fun Wb ht _ => ?_⟩
  replace h2 := IsBuilderF.turn h2 ht (fun k hk => by rcases hk with rfl | rfl; exact ⟨_, by decide, by decide, k1⟩; exact ⟨_, by decide, by decide, k2⟩)
  replace k1 := k1.turn ht
  replace k2 := k2.turn ht
  replace h3 := Ah h3 ht (by omega)
  replace h4 := Ah h4 ht (by omega)
  replace h5 := Ah h5 ht (by omega)
  replace h6 := ht.below h6 (fun k hk => by omega) (by omega) (by omega)
  replace h7 := Nat.lt_of_lt_of_le h7 ht.size
  clear ht
  have HPR := hid hpre
  have h6z : N <= Wb.heap.size := by omega
  clear hpre
  cases x with
  | sign r tq =>
   have hvr : Lib.validRune r = true := HPS.out.1 r tq (HPR.out.subset (by simp))
   obtain ⟨hr0, hr1⟩ := Lf hvr
   have hacc : acc.length <= 4 * s.size := by
    have e1 := h1.out.1
    have e2 := HPR.out.length_le
    have e3 := HPS.out.2
    simp at e2
    omega
   have hta := Jm (.agg #[.int .i32 r, .int .i64 tq])
   unfold Eh
   have h2' := h2.alloc (.cells #[.int .i32 r, .int .i64 tq] 291)
   clear hvr h2
   gi_wp2_with fail
   refine (CallsIn.inRound l (callsIn_wide.2 (M6 M M (Lib.byteCells acc) r (by omega) (by omega) _ h2' (by simp [Lib.byteCells]; omega) (by simp; omega)))).mono ?_
   rintro e w5 ⟨rfl, hB, hb, ho⟩
   rw [<- Lib.byteCells_encodeRune, <- Lib.byteCells_append] at hB
   have fin : Ag Av (fun k => k = M + 1 \/ k = M + 1 + 1) N Wb w5 /\ (∃ acc, Hid (acc.length <= 4 * (pre ++ [QP.sign r tq]).length /\ ∀ rest, C8 ((pre ++ [QP.sign r tq]) ++ rest) [] = C8 rest acc) /\ Lib.IsBuilderF TB T8 M M (Lib.byteCells acc) w5 /\ AW w5 (M + 1) 286 /\ AW w5 (M + 1 + 1) 3 /\ Boxed w5 N 9 (.string ⟨#[]⟩) /\ Boxed w5 (N + 1) 3 (.int .i64 0) /\ Boxed w5 (N + 1 + 1) 31 (.int .i64 0) /\ Below N w w5 /\ M + 1 + 1 < w5.heap.size) := by
    have k1' := k1.below ((Bq _ Wb).alloc Nr (.cells #[.int .i32 r, .int .i64 tq] 291))
    have k2' := k2.below ((Bq _ Wb).alloc Nr (.cells #[.int .i32 r, .int .i64 tq] 291))
    refine ⟨(Ag.alloc Wb _).trans (Ag.others ho hb (by omega) (G5 h2') (fun k hk => by rcases hk with rfl | rfl; exact ⟨by omega, _, by decide, k1'⟩; exact ⟨by omega, _, by decide, k2'⟩)), acc ++ encodeRune r, hid ⟨?_, O0 pre r tq acc h1.out.2⟩, .inr hB, k1'.others ho (by omega) (by decide), k2'.others ho (by omega) (by decide), Em (h3.alloc _) hb (by omega), Em (h4.alloc _) hb (by omega), Em (h5.alloc _) hb (by omega), (h6.alloc (by omega) _).trans (hb.mono (by omega)), ?_⟩
    ·have e1 := h1.out.1
     have e2 := Lib.runeCells_le r
     rw [<- Lib.byteCells_encodeRune, Lib.byteCells_length] at e2
     simp only [List.length_append, List.length_cons, List.length_nil]
     omega
    ·have := hb.size; simp at this; omega
   have FIN := hid fin
   clear fin hB ho hb h1 h2' k1 k2 h3 h4 h5 hta hr0 hr1
   gi_wp2
   exact FIN.out
  | fin tq =>
   have HF := hid (show C8 ps [] = (acc, tq, 0) by
    obtain ⟨rest, hrest⟩ := HPR.out
    rw [<- hrest, List.append_assoc, h1.out.2]; rfl)
   have hta := Kr (.agg #[.int .i64 tq])
   have htb := Nz (.agg #[.int .i64 tq])
   unfold Eh
   have h2' := h2.alloc (.cells #[.int .i64 tq] 293)
   have STR := CallsIn.inRound l ((callsIn_wide (n := 0)).2 (Tryz.Builder_String_any_k M M acc (Wb.alloc (.cells #[.int .i64 tq] 293)).drew h2' (by simp; omega)))
   have fin : ∀ w5, Below M (Wb.alloc (.cells #[.int .i64 tq] 293)) w5 -> Lib.OthersKept T8 (some M) (Wb.alloc (.cells #[.int .i64 tq] 293)) w5 -> w5.cell? ⟨Wb.heap.size, 0, none⟩ = some (.int .i64 tq) /\ Boxed w5 N 9 (.string ⟨#[]⟩) /\ Boxed w5 (N + 1) 3 (.int .i64 0) /\ Boxed w5 (N + 1 + 1) 31 (.int .i64 0) /\ Below N w w5 /\ Wb.heap.size < w5.heap.size /\ Ag Av (fun k => k = M + 1 \/ k = M + 1 + 1) N Wb w5 := fun w5 hb ho => by
    have k1' := k1.below ((Bq _ Wb).alloc Nr (.cells #[.int .i64 tq] 293))
    have k2' := k2.below ((Bq _ Wb).alloc Nr (.cells #[.int .i64 tq] 293))
    have hnew : w5.heap[Wb.heap.size]? = some (.cells #[.int .i64 tq] 293) := ho _ _ (Wn _ _) (fun e => by have := Option.some.inj e; omega) (fun c fz e => by injection e with _ e; exact absurd e (by decide))
    refine ⟨by simp [World.cell?, hnew], Em (h3.alloc _) hb (by omega), Em (h4.alloc _) hb (by omega), Em (h5.alloc _) hb (by omega), (h6.alloc (by omega) _).trans (hb.mono (by omega)), by have := hb.size; simp at this; omega, ?_⟩
    exact (Ag.alloc Wb _).trans (Ag.others ho hb (by omega) (G5 h2') (fun k hk => by rcases hk with rfl | rfl; exact ⟨by omega, _, by decide, k1'⟩; exact ⟨by omega, _, by decide, k2'⟩))
   have FIN := hid fin
   have hd1 : Wb.heap.size ≠ N := by omega
   have hd2 : Wb.heap.size ≠ N + 1 := by omega
   have hd3 : Wb.heap.size ≠ N + 1 + 1 := by omega
   clear h2 fin h1 h3 h4 h5 k1 k2 h2'
   gi_wp2
   gi_region_with ((gi_at_call 38; refine STR.mono ?_; rintro e w5 ⟨rfl, hB, hb, ho⟩; obtain ⟨e0, e1, e2, e3, e4, e5, e6⟩ := FIN.out w5 ⟨hb.os, hb.tape, hb.output, hb.size, hb.block⟩ ho; have c1 := e1.cell; have f1 := e1.frozen; have c2 := e2.cell; have f2 := e2.frozen; have c3 := e3.cell; have f3 := e3.frozen))
   all_goals (gi_wp2; exact (by
    obtain ⟨q1, q2, q3, q4⟩ := Ev (C := fun k => k = M + 1 \/ k = M + 1 + 1) e1 e2 e3 (by omega) (by omega) (by omega) (.string ⟨acc.toArray⟩) (.int .i64 tq) (.int .i64 0)
    exact ⟨e6.trans q1, rfl, _, HF, q2, q3, q4, ((e4.setCell (p := ⟨N, 0, none⟩) (by simp) _).setCell (p := ⟨N + 1, 0, none⟩) (by simp) _).setCell (p := ⟨N + 1 + 1, 0, none⟩) (by simp; omega) _⟩))
  | bad e0 =>
   have HF := hid (show C8 ps [] = ([], 0, e0) by
    obtain ⟨rest, hrest⟩ := HPR.out
    rw [<- hrest, List.append_assoc, h1.out.2]; rfl)
   have hta := KI (.agg #[.int .i64 e0])
   have htb := Ng (.agg #[.int .i64 e0])
   have htc := Ny (.agg #[.int .i64 e0])
   unfold Eh
   have c1 := h3.cell; have f1 := h3.frozen
   have c2 := h4.cell; have f2 := h4.frozen
   have c3 := h5.cell; have f3 := h5.frozen
   have hd1 : Wb.heap.size ≠ N := by omega
   have hd2 : Wb.heap.size ≠ N + 1 := by omega
   have hd3 : Wb.heap.size ≠ N + 1 + 1 := by omega
   have hl1 : N < Wb.heap.size := by omega
   have hl2 : N + 1 < Wb.heap.size := by omega
   have hl3 : N + 1 + 1 < Wb.heap.size := by omega
   clear h2 h1 k1 k2
   gi_wp2
   gi_region
   all_goals (gi_wp2; exact (by
    obtain ⟨q1, q2, q3, q4⟩ := Ev (C := fun k => k = M + 1 \/ k = M + 1 + 1) h3 h4 h5 (by omega) (by omega) (by omega) (.string ⟨#[]⟩) (.int .i64 0) (.int .i64 e0)
    have q5 := (((h6.setCell (p := ⟨N, 0, none⟩) (by simp) (.string ⟨#[]⟩)).setCell (p := ⟨N + 1, 0, none⟩) (by simp) (.int .i64 0)).setCell (p := ⟨N + 1 + 1, 0, none⟩) (by simp; omega) (.int .i64 e0)).alloc (by simp [World.setCell]; omega) (.cells #[.int .i64 e0] 295)
    have q6 := q1.trans (Ag.alloc _ (.cells #[.int .i64 e0] 295))
    exact ⟨⟨q6.os, q6.tape, q6.output, q6.size, q6.block⟩, rfl, _, HF, q2.alloc _, q3.alloc _, q4.alloc _, ⟨q5.os, q5.tape, q5.output, q5.size, q5.block⟩⟩))
 case done =>
  rintro D W hD ⟨acc, h1, h2, k1, k2, h3, h4, h5, h6, h7⟩ hK
  have c3 := h3.cell; have f3 := h3.frozen
  have c4 := h4.cell; have f4 := h4.frozen
  have c5 := h5.cell; have f5 := h5.frozen
  have HF := hid (show C8 ps [] = ([], 0, 42) by have := h1.out.2 []; rw [List.append_nil] at this; exact this)
  clear h1
  go_wp2
  have hK' : (((W.setCell ⟨N, 0, none⟩ (.string ⟨#[]⟩)).setCell ⟨N + 1, 0, none⟩ (.int .i64 0)).setCell ⟨N + 1 + 1, 0, none⟩ (.int .i64 42)).heap[D]? = some (.deferred (some [])) := (KeepsOthers.setCell _ _ _).same D _ ((KeepsOthers.setCell _ _ _).same D _ ((KeepsOthers.setCell W ⟨N, 0, none⟩ _).same D _ hK rfl) rfl) rfl
  refine ⟨by simp, .inl ⟨_, _, rfl, run_takeDeferred hK', ?_⟩⟩
  have d1 := (Ar (An (An (h3.set (.string ⟨#[]⟩)) (show N ≠ N + 1 by simp) (.int .i64 0)) (show N ≠ N + 1 + 1 by simp; omega) (.int .i64 42)) hK' (.deferred none)).cell
  have d2 := (Ar (An ((An h4 (show N + 1 ≠ N by simp) (.string ⟨#[]⟩)).set (.int .i64 0)) (show N + 1 ≠ N + 1 + 1 by simp) (.int .i64 42)) hK' (.deferred none)).cell
  have d3 := (Ar ((An (An h5 (show N + 1 + 1 ≠ N by simp; omega) (.string ⟨#[]⟩)) (show N + 1 + 1 ≠ N + 1 by simp) (.int .i64 0)).set (.int .i64 42)) hK' (.deferred none)).cell
  refine ⟨EU ([], 0, 42), by simp [results, Tryz.f172, go_sem, d1, d2, d3, EU], by rw [HF.out], ?_⟩
  rw [hN]; exact Cp (((h6.setCell (p := ⟨N, 0, none⟩) (by simp) _).setCell (p := ⟨N + 1, 0, none⟩) (by simp) _).setCell (p := ⟨N + 1 + 1, 0, none⟩) (by simp; omega) _) hK' (by omega) (by omega) _
 case stop =>
  rintro D co pre W hD hpre ⟨rfl, x, hx, h3, h4, h5, h6⟩ hK
  refine wpIn_wide.2 ?_
  go_wp2
  refine ⟨by simp, .inl ⟨_, _, rfl, run_takeDeferred hK, ?_⟩⟩
  have d1 := (Ar h3 hK (.deferred none)).cell
  have d2 := (Ar h4 hK (.deferred none)).cell
  have d3 := (Ar h5 hK (.deferred none)).cell
  refine ⟨EU x, by simp [results, Tryz.f172, go_sem, d1, d2, d3, EU], by rw [hx.out], ?_⟩
  rw [hN]; exact Cp h6 hK (by omega) (by omega) _
theorem F2 : ∀ (f : Nat) (l : List UInt8) (n : Nat), l.length <= f -> validD l = true -> (h : n < l.length) -> (l[n]'h).toNat < 128 -> validD (l.drop (n + 1)) = true
 | 0, l, n, hf, _, h, _ => by omega
 | f + 1, l, n, hf, hv, h, hb => by
  have hne : l ≠ [] := by rintro rfl; simp at h
  have hw := decodeL_width l
  have hbad : ¬ ((decodeL l).1 = 65533 /\ (decodeL l).2 = 1) := fun hbad => by
   rw [validD_step _ hne, if_pos hbad] at hv; cases hv
  rw [validD_step _ hne, if_neg hbad] at hv
  have henc := encode_decode l hne hbad
  by_cases hk : n < (decodeL l).2
  ·have hmem : l[n]'h ∈ encodeRune ((decodeL l).1 : Int) := by
    rw [henc]
    exact List.mem_take_iff_getElem.2 ⟨n, by omega, rfl⟩
   have hlow : (decodeL l).1 < 128 := by
    rcases Nat.lt_or_ge (decodeL l).1 128 with h1 | h1
    ·exact h1
    ·have := Sr ((decodeL l).1 : Int) (by omega) _ hmem; omega
   have hk1 : (decodeL l).2 = 1 := by
    have h1 := Dn l hne hbad
    unfold runeLen at h1
    rw [if_neg (by omega), if_pos (by omega)] at h1
    omega
   obtain rfl : n = 0 := by omega
   rw [hk1] at hv; exact hv
  ·have h2 : n - (decodeL l).2 < (l.drop (decodeL l).2).length := by rw [List.length_drop]; omega
   have := F2 f (l.drop (decodeL l).2) (n - (decodeL l).2) (by rw [List.length_drop]; omega) hv h2 (by rw [List.getElem_drop]; simpa [show (decodeL l).2 + (n - (decodeL l).2) = n by omega] using hb)
   rw [List.drop_drop] at this
   rw [show n + 1 = (decodeL l).2 + (n - (decodeL l).2 + 1) by omega]
   exact this
theorem KG (s : ByteArray) (p : Int) (w : World) (hs : s.size <= 1000000) (hT : Bz w) :
  Calls Tryz.prog 172 #[.string s, .int .i64 p] w fun e w' => e = .returned (EU (B6 s p)) /\ Below w.heap.size w w' := by
 unfold B6
 cases hv : validD s.data.toList with
 | false => exact Rr s p w hs hv hT
 | true =>
  rw [if_pos rfl]
  cases hq : D8 s p with
  | none => exact QE s p w hs hv hq hT
  | some q =>
   obtain ⟨n, hn, rfl, h2, h3⟩ := LC hq
   have hlt : (s[n]'hn).toNat < 128 := by omega
   rw [show ((n : Nat) : Int).toNat = n by omega]
   exact PZ s n hn q h2 h3 w hs hv (fun _ => F2 _ s.data.toList n Nr hv (by rw [<- Lib.size_eq]; exact hn) hlt) hT
end
end Go.Proofs.YtaogfdffgdglkaaGreatDoor
