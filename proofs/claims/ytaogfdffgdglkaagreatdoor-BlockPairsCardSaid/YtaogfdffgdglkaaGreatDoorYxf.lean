/- What is proved: a part of the walk of the program and of its plain laws; no condition beside those that each theorem names. -/
import Derived.Test.YtaogfdffgdglkaaGreatDoorYa
import Derived.Test.YtaogfdffgdglkaaGreatDoorYxe
import Derived.Deep.RegionHeldLaw
import Derived.Laws.Tables
namespace Go.Proofs.YtaogfdffgdglkaaGreatDoor
open Go Go.RowKit Go.Lib
set_option linter.unusedSimpArgs false
set_option linter.unusedVariables false
section
set_option maxRecDepth 100000
set_option maxHeartbeats 8000000
theorem Af.setRow {C : Nat -> Prop} {B : Nat} (X : World) (g : Nat) (cs : Array Value) (hC : C g) : Af C B X (X.setRow g cs) :=
 ⟨rfl, rfl, rfl, by simp, fun k o hk hc _ => (setRow_other X g k cs (fun e => hc (e ▸ hC))).trans hk, fun k c e fz hk => by
  by_cases hkg : k = g
  ·subst hkg; exact ⟨cs, fz, setRow_heap X k c cs e fz hk⟩
  ·exact ⟨c, fz, (setRow_other X g k cs hkg).trans hk⟩⟩
theorem Cu {B g : Nat} {w0 w : World} (hb : Below B w0 w) (hBg : B <= g) (cs : Array Value) : Below B w0 (w.setRow g cs) :=
 ⟨hb.os, hb.tape, hb.output, by rw [size_setRow]; exact hb.size, fun k hk => (setRow_other w g k cs (by omega)).trans (hb.block k hk)⟩
theorem Tp {w5 Z : World} {Nk Nt B : Nat} {ok ck ot ct : Array Value} {ty ty' : TypeId} (hne : Nk ≠ Nt) (hk : w5.heap[Nk]? = some (.cells ok ty)) (ht : w5.heap[Nt]? = some (.cells ot ty'))
  (hZ : Z = (w5.setRow Nk ck).setRow Nt ct \/ Z = (w5.setRow Nt ct).setRow Nk ck) : Z.heap[Nk]? = some (.cells ck ty) /\ Z.heap[Nt]? = some (.cells ct ty') /\ Af (fun k => k = Nk \/ k = Nt) B w5 Z := by
 rcases hZ with rfl | rfl
 ·exact ⟨(setRow_other _ Nt Nk ct hne).trans (setRow_heap w5 Nk ok ck ty _ hk), setRow_heap _ Nt ot ct ty' _ ((setRow_other w5 Nk Nt ck (Ne.symm hne)).trans ht), (Af.setRow w5 Nk ck (.inl rfl)).trans (Af.setRow _ Nt ct (.inr rfl))⟩
 ·exact ⟨setRow_heap _ Nk ok ck ty _ ((setRow_other w5 Nt Nk ct hne).trans hk), (setRow_other _ Nk Nt ck (Ne.symm hne)).trans (setRow_heap w5 Nt ot ct ty' _ ht), (Af.setRow w5 Nt ct (.inr rfl)).trans (Af.setRow _ Nk ck (.inl rfl))⟩
theorem Bk {ops : Array Oper} {o : Oper} {a : Act} {K : Act -> World -> Prop} {Q : Exit -> Act -> World -> Prop} {E : Prop} {w : World} (hgd : o.guard = none) (ty : TypeId) (x y : Operand) (ho : o.op = .store ty x y)
  (g : Nat) (cells : Array Value) (hx : a.eval x = .pointer (some ⟨g, 0, none⟩)) (hy : a.eval y = .agg cells)
  (t : TypeId) (old : Array Value) (hg : w.heap[g]? = some (.cells old t (0, 0))) (hi : (Tryz.prog.info? ty).map (·.size) = some cells.size)
  (hold : old.size = cells.size) (h1 : cells.all (·.oneCell') = true)
  (h : K (a.put o.dst undef) (w.setRow g cells)) : if Region.wanted o (yielded ops a.tmps) = true then Oper.wp Tryz.prog o a w K Q else E := by
 have hw : Region.wanted o (yielded ops a.tmps) = true := by simp [Region.wanted, hgd]
 rw [if_pos hw]
 exact wp_store_row ty x y ho g cells hx hy t old hg hi hold h1 h
theorem AB.news {R b : Nat} {w w5 Z : World} {C : Nat -> Prop} (h : AB R b w w5) (ht : Af C w.heap.size w5 Z) (hC : ∀ k, C k -> w.heap.size <= k) : AB R b w Z :=
 ⟨ht.os.trans h.os, ht.tape.trans h.tape, ht.output.trans h.output, Nat.le_trans h.size ht.size, fun k o hk hc ho => by
  have hlt := (Gl hk)
  exact ht.block k o (h.block k o hk hc ho) (fun e => by have := hC k e; omega) (.inl hlt), fun k c e fz hk => by
  obtain ⟨c', fz', h2⟩ := h.kinds k c e fz hk
  exact ht.kinds k c' e fz' h2⟩
theorem CE.news {R b B : Nat} {w Z : World} {es : List En} {C : Nat -> Prop} (h : CE w R b es) (ht : Af C B w Z) (hB : R < B) (hC : ∀ k, C k -> R < k) : CE Z R b es :=
 h.belowR (Af.below ht (Bq _ _) (fun k hk => hC k hk) hB h.rlt)
theorem V4 {w : World} {R b : Nat} {l : List AV} {v : Value} (h : DF w R b l v) (h2 : 1 <= l.length) : ∃ a o L ca, v = .slice (some ⟨a, o, none⟩) L ca /\ a < R /\ a ≠ b /\ w.cell? ⟨a, o, none⟩ = some (.int .i64 (l.getD 0 EK).kind) /\ w.cell? ⟨a, o + 1, none⟩ = some (.string ⟨(l.getD 0 EK).str.toArray⟩) /\ w.cell? ⟨a, o + 2, none⟩ = some (.int .i64 (l.getD 0 EK).at_) := by
 obtain ⟨A, c, hv, hc, ⟨A', c', hv', ht⟩, hf⟩ := h
 obtain ⟨a, o, ha, _, g0, g1, g2⟩ := ht 0 (by omega)
 have hab := hf a o _ c' (by rw [hv', ha]) (by omega)
 exact ⟨a, o, _, c', by rw [hv', ha], hab.1, hab.2, by simpa [EK] using g0, by simpa [EK] using g1, by simpa [EK] using g2⟩
def Oy (R b : Nat) (k : Sc) (r : BR) (w : World) (e : Ending) (w' : World) : Prop := match r with
 | .ok t rest => ∃ tv, e = .returned (.tuple #[Ia k, tv, .nilIface]) /\ Ao w' (fun k => w.heap.size <= k) t tv /\ CE w' R b rest /\ AB R b w w'
 | .bad no er => ∃ k' tv, e = .returned (.tuple #[Ia k', tv, Ci no er]) /\ Mg tv /\ (∃ es, CE w' R b es) /\ AB R b w w'
 | .out => False
theorem BZ.opn {R b : Nat} {rr : BR} {wS : World} {e : Ending} {w10 : World} (hp : BZ R b rr wS e w10) :
  ∃ (tk : Int) (tnm : ByteArray) (xk xn : Int) (ys : ByteArray) (KA0 : Option Addr) (kl kc : Nat) (TA : Option Addr) (tl tc : Nat) (ev : Value) (es2 : List En), e = .returned (.tuple #[.agg #[.int .i64 tk, .string tnm, .int .i64 xk, .int .i64 xn, .string ys, .slice KA0 kl kc, .slice TA tl tc], ev]) /\ CE w10 R b es2 /\ AB R b wS w10 ∧
   ∀ (w Z : World) (kq : Sc), w.heap.size <= wS.heap.size -> B4 (fun k => wS.heap.size <= k) w10 Z -> CE Z R b es2 -> AB R b w Z -> Oy R b kq rr w (.returned (.tuple #[Ia kq, .agg #[.int .i64 tk, .string tnm, .int .i64 xk, .int .i64 xn, .string ys, .slice KA0 kl kc, .slice TA tl tc], ev])) Z := by
 cases rr with
 | out => exact hp.elim
 | bad n2 er2 =>
  obtain ⟨tv, rfl, ⟨tk, tnm, xk, xn, ys, KA0, kl, kc, TA, tl, tc, rfl⟩, ⟨es2, hrd⟩, hm⟩ := hp
  exact ⟨tk, tnm, xk, xn, ys, KA0, kl, kc, TA, tl, tc, _, es2, rfl, hrd, hm, fun w Z kq _ _ h2 h3 => ⟨kq, _, rfl, ⟨_, _, _, _, _, _, _, _, _, _, _, rfl⟩, ⟨es2, h2⟩, h3⟩⟩
 | ok t rest =>
  obtain ⟨tv, rfl, htv, hrd, hm⟩ := hp
  obtain ⟨tk, tnm, xk, xn, ys, KA0, kl, kc, TA, tl, tc, rfl⟩ := htv.form
  exact ⟨tk, tnm, xk, xn, ys, KA0, kl, kc, TA, tl, tc, _, rest, rfl, hrd, hm, fun w Z kq h0 h1 h2 h3 => ⟨_, rfl, Au (fun k _ hk => Nat.le_trans h0 hk) _ _ (As h1 _ _ htv), h2, h3⟩⟩
theorem Ux {C : Nat -> Prop} {B a c : Nat} {w X : World} {k0 k1 k2 v0 v1 v2 v3 v4 v5 v6 : Value} {ty ty' : TypeId} (hT : Af C B w X) (h1 : w.heap[a]? = some (.cells #[k0, k1, k2] ty)) (h2 : w.heap[c]? = some (.cells #[v0, v1, v2, v3, v4, v5, v6] ty')) (ha : ¬ C a) (hc : ¬ C c) :
  X.cell? ⟨a, 0, none⟩ = some k0 /\ X.cell? ⟨a, 1, none⟩ = some k1 /\ X.cell? ⟨a, 2, none⟩ = some k2 /\ X.cell? ⟨c, 0, none⟩ = some v0 /\ X.cell? ⟨c, 1, none⟩ = some v1 /\ X.cell? ⟨c, 2, none⟩ = some v2 /\ X.cell? ⟨c, 3, none⟩ = some v3 /\ X.cell? ⟨c, 4, none⟩ = some v4 /\ X.cell? ⟨c, 5, none⟩ = some v5 /\ X.cell? ⟨c, 6, none⟩ = some v6 := by
 obtain ⟨y0, y1, y2, _⟩ := Az (hT.heap h1 ha rfl)
 obtain ⟨t0, t1, t2, t3, t4, t5, t6, _⟩ := Ay (hT.heap h2 hc rfl)
 exact ⟨y0, y1, y2, t0, t1, t2, t3, t4, t5, t6⟩
theorem B4.trans {S : Nat -> Prop} {w w1 w2 : World} (h : B4 S w w1) (k : B4 S w1 w2) : B4 S w w2 := ⟨Nat.le_trans h.1 k.1, fun b o x hs hc => k.2 b o x hs (h.2 b o x hs hc)⟩
theorem CW {w1 : World} {N : Nat} {a0 a1 a2 a3 a4 a5 a6 : Value} {ty : TypeId} (h : w1.heap[N]? = some (.cells #[a0, a1, a2, a3, a4, a5, a6] ty)) (v0 v1 v2 v3 v4 v5 v6 : Value) :
  (((((((w1.setCell ⟨N, 0, none⟩ v0).setCell ⟨N, 1, none⟩ v1).setCell ⟨N, 2, none⟩ v2).setCell ⟨N, 3, none⟩ v3).setCell ⟨N, 4, none⟩ v4).setCell ⟨N, 5, none⟩ v5).setCell ⟨N, 6, none⟩ v6).heap[N]? = some (.cells #[v0, v1, v2, v3, v4, v5, v6] ty) := by
 have h6 := heap_setCell_same _ N 6 _ _ v6 (heap_setCell_same _ N 5 _ _ v5 (heap_setCell_same _ N 4 _ _ v4 (heap_setCell_same _ N 3 _ _ v3 (heap_setCell_same _ N 2 _ _ v2 (heap_setCell_same _ N 1 _ _ v1 (heap_setCell_same w1 N 0 _ _ v0 h))))))
 simp only [List.setIfInBounds_toArray, List.set_cons_zero, List.set_cons_succ] at h6
 exact h6
theorem CX {C : Nat -> Prop} {B N : Nat} (w : World) (v0 v1 v2 v3 v4 v5 v6 : Value) (hC : C N) : Af C B w (((((((w.setCell ⟨N, 0, none⟩ v0).setCell ⟨N, 1, none⟩ v1).setCell ⟨N, 2, none⟩ v2).setCell ⟨N, 3, none⟩ v3).setCell ⟨N, 4, none⟩ v4).setCell ⟨N, 5, none⟩ v5).setCell ⟨N, 6, none⟩ v6) :=
 ((((((Af.setCell w ⟨N, 0, none⟩ v0 hC).trans (Af.setCell _ ⟨N, 1, none⟩ v1 hC)).trans (Af.setCell _ ⟨N, 2, none⟩ v2 hC)).trans (Af.setCell _ ⟨N, 3, none⟩ v3 hC)).trans (Af.setCell _ ⟨N, 4, none⟩ v4 hC)).trans (Af.setCell _ ⟨N, 5, none⟩ v5 hC)).trans (Af.setCell _ ⟨N, 6, none⟩ v6 hC)
def E6 (w : World) (c0 c1 c2 : Value) : World := ((w.alloc (.cells #[c0, c1, c2] 107)).alloc (.cells #[.int .i64 0, .int .i64 0, .string ⟨#[]⟩] 26)).alloc (.cells #[.int .i64 0, .string ⟨#[]⟩, .int .i64 0, .int .i64 0, .string ⟨#[]⟩, .slice none 0 0, .slice none 0 0] 30)
theorem Lg (w : World) (c0 c1 c2 : Value) : Below w.heap.size w (E6 w c0 c1 c2) /\ (E6 w c0 c1 c2).heap.size = w.heap.size + 1 + 1 + 1 /\ (E6 w c0 c1 c2).heap[w.heap.size]? = some (.cells #[c0, c1, c2] 107) ∧
  (E6 w c0 c1 c2).heap[w.heap.size + 1]? = some (.cells #[.int .i64 0, .int .i64 0, .string ⟨#[]⟩] 26) /\ (E6 w c0 c1 c2).heap[w.heap.size + 1 + 1]? = some (.cells #[.int .i64 0, .string ⟨#[]⟩, .int .i64 0, .int .i64 0, .string ⟨#[]⟩, .slice none 0 0, .slice none 0 0] 30) := by
 unfold E6
 have h1 := Wn (w.alloc (.cells #[c0, c1, c2] 107)) (.cells #[.int .i64 0, .int .i64 0, .string ⟨#[]⟩] 26)
 have h2 := Wn ((w.alloc (.cells #[c0, c1, c2] 107)).alloc (.cells #[.int .i64 0, .int .i64 0, .string ⟨#[]⟩] 26)) (.cells #[.int .i64 0, .string ⟨#[]⟩, .int .i64 0, .int .i64 0, .string ⟨#[]⟩, .slice none 0 0, .slice none 0 0] 30)
 rw [World.size_alloc] at h1
 rw [World.size_alloc, World.size_alloc] at h2
 exact ⟨(((Bq _ w).alloc Nr _).alloc (by simp) _).alloc (by simp; omega) _, by simp, (Below.heap_alloc _ _ _ (by simp; omega)).trans ((Below.heap_alloc _ _ _ (by simp)).trans (Wn w _)), (Below.heap_alloc _ _ _ (by simp)).trans h1, h2⟩
theorem QI {R b n : Nat} (hB : Jh R b n) (x : En) (r : List En) (A : Option Addr) (ca d : Nat) (w : World) (h : CE w R b (x :: r)) (hy : DF w R b x.l (.slice A x.l.length ca)) (hg : Gd (x :: r)) (hkey : Bp x.l = .key) (hd : d <= 1000) (hn : 4 * Dw (x :: r) <= n + 1) :
  Calls Tryz.prog 110 #[.pointer (some ⟨R, 0, none⟩), .agg #[.int .i64 x.no, .int .i64 x.col, .slice A x.l.length ca], .int .i64 d] w (Oy R b (Co x.l).1 (if (Co x.l).2 ≠ 0 then .bad x.no (Co x.l).2 else Bl (n + 1) d x r) w) := by
 obtain ⟨hb1, hs1, hX, hNk, hNt⟩ := Lg w (.int .i64 x.no) (.int .i64 x.col) (.slice A x.l.length ca)
 have HX := hid (Ai hX (Ai hNk (Ai hNt hb1)))
 have hlt := h.rlt
 have hbR := h.lt
 have hgx := hg x List.mem_cons_self
 have h2 : 2 <= x.l.length := To hkey
 have HH := hid (h.below hb1)
 have HY := hid (hy.below (hb1.mono hlt))
 rw [AA] at hn
 obtain ⟨W1, hW1⟩ : ∃ W1, E6 w (.int .i64 x.no) (.int .i64 x.col) (.slice A x.l.length ca) = W1 := ⟨_, rfl⟩
 have HW1 := hid hW1
 unfold E6 at hW1
 rw [show E6 w (.int .i64 x.no) (.int .i64 x.col) (.slice A x.l.length ca) = W1 from HW1.out] at HX hs1 HH HY
 have HS1 := hid hs1
 obtain ⟨a, o, L', ca', e, haR, hab, c0, c1, c2⟩ := V4 HY.out (by omega)
 injection e with e1 e2 e3
 subst e1 e2 e3
 have hKq : Co x.l = B3 ⟨(x.l.getD 0 EK).kind, (x.l.getD 0 EK).str⟩ := rfl
 have hsl : (x.l.getD 0 EK).str.length <= 1000000 := hgx.fx.str 0 (by omega)
 obtain ⟨⟨pk, ps, pa⟩, hp0⟩ : ∃ p, x.l.getD 0 EK = p := ⟨_, rfl⟩
 rw [hp0] at c0 c1 c2 hKq hsl
 dsimp only at c0 c1 c2 hKq hsl
 have hT := GM R b x r W1 HH.out
 have hKK := fun wx (hx : Bz wx) => Px pk pa ⟨ps.toArray⟩ wx (by rw [Lib.size_eq]; simpa using hsl) hx
 rw [show (⟨ps.toArray⟩ : ByteArray).data.toList = ps by simp] at hKK
 rw [LM] at hKq
 obtain ⟨⟨⟨kk, kn, ks⟩, ek⟩, hkr⟩ : ∃ z, Fg ⟨pk, ps⟩ = z := ⟨_, rfl⟩
 rw [hkr] at hKK hKq
 dsimp only at hKK hKq
 have hF := fun er wx => Df x.no x.col (some ⟨a, o, none⟩) x.l.length ca er wx
 obtain ⟨rr, hrr⟩ : ∃ z, (if (Co x.l).2 ≠ 0 then BR.bad x.no (Co x.l).2 else Bl (n + 1) d x r) = z := ⟨_, rfl⟩
 rw [hrr]
 have HRR := hid hrr
 have HKQ := hid hKq
 obtain ⟨kq, hkq⟩ : ∃ z, (Co x.l).1 = z := ⟨_, rfl⟩
 rw [hkq]
 have HKF := hid hkq
 clear hkq
 clear hX hNk hNt hb1 hs1 hrr hKq hkr hsl hp0 h hy
 obtain ⟨no, xc, l⟩ := x
 dsimp only at hW1 HX HH HY HRR HKQ HKF hT hF h2 |-
 obtain ⟨L, hL⟩ : ∃ L, l.length = L := ⟨_, rfl⟩
 rw [hL] at hW1 HX h2 hF |-
 have HL := hid hL
 have hL0 : (0 : Int) < (L : Int) := by omega
 have hL0n : 0 < L := by omega
 obtain ⟨x0, x1, x2, _⟩ := Az HX.out.1
 clear hL HW1
 go_enter Tryz.func110, Tryz.ntmps110
 go_wp2_with fail
 refine hT.mono ?_
 rintro e w2 ⟨⟨pv, rfl⟩, hrd, hm⟩
 have hmk := hm
 have HX2 := hid (Ai (hm.heap HX.out.1 (by omega) (by omega)) (Ai (hm.heap HX.out.2.1 (by omega) (by omega)) (Ai (hm.heap HX.out.2.2.1 (by omega) (by omega)) ((AB.of_below HX.out.2.2.2).trans hm))))
 have hnC : ¬ (a = R \/ a = b) := fun h => h.elim (fun h => by omega) hab
 replace c0 := Af.cell hm c0 hnC
 replace c1 := Af.cell hm c1 hnC
 replace c2 := Af.cell hm c2 hnC
 have hsz2 : W1.heap.size <= w2.heap.size := hm.size
 have HRD := hid hrd
 clear hT hm hrd x0 x1 x2
 obtain ⟨x0, x1, x2, _⟩ := Az HX2.out.1
 go_wp2_with fail
 refine (hKK w2 HRD.out.tb.tabs.1).mono ?_
 rintro e w3 ⟨rfl, hb3⟩
 unfold Ia
 have hbA : Below w3.heap.size w3 (w3.alloc (.cells #[.int .i64 kk, .int .i64 kn, .string ks] 26)) := (Bq _ w3).alloc Nr _
 have hbW := hb3.trans (hbA.mono hb3.size)
 have hsz3 : w2.heap.size <= w3.heap.size := hb3.size
 have HX4 := hid (Ai (Aa HX2.out.1 hbW) (Ai (Aa HX2.out.2.1 hbW) (Ai (Aa HX2.out.2.2.1 hbW) (HX2.out.2.2.2.below hbW))))
 have hK9 := Wn w3 (.cells #[.int .i64 kk, .int .i64 kn, .string ks] 26)
 obtain ⟨w4, hw4⟩ : ∃ w4, w3.alloc (.cells #[.int .i64 kk, .int .i64 kn, .string ks] 26) = w4 := ⟨_, rfl⟩
 rw [hw4] at HX4 hK9 hbW hbA
 have HK9 := hid hK9
 have HRD4 := hid (HRD.out.below hbW)
 have HQ4 := hid (hmk.below hbW)
 have hs1 := HS1.out
 have hs4 : w4.heap.size = w3.heap.size + 1 := by rw [<- hw4]; simp
 have HS4 := hid hs4
 clear hmk hKK hb3 hbA hbW hK9 c0 c1 c2 x0 x1 x2 hs4
 obtain ⟨x0, x1, x2, _⟩ := Az HX4.out.1
 obtain ⟨y0, y1, y2, _⟩ := Az HK9.out
 by_cases hek : ek = 0
 case neg =>
  obtain rfl : rr = .bad no ek := by
   rw [<- HRR.out, HKQ.out, if_neg hek, if_pos hek]
  have heki : (ek != 0) = true := by simpa using hek
  have HSS := hid (fun (X : World) (hT : Af (fun k => k = w.heap.size + 1 \/ k = w.heap.size + 1 + 1) w.heap.size w4 X) => Ai (Af.cell hT (k := w.heap.size) x0 (by omega)) (Ai (Af.cell hT (k := w.heap.size) x1 (by omega)) (Ai (Af.cell hT (k := w.heap.size) x2 (by omega))
   (Ai (Af.cell hT (k := w3.heap.size) y0 (by omega)) (Ai (Af.cell hT (k := w3.heap.size) y1 (by omega)) (Af.cell hT (k := w3.heap.size) y2 (by omega)))))))
  have hT4 : Af (fun k => k = w.heap.size + 1 \/ k = w.heap.size + 1 + 1) w.heap.size w4 w4.drew := Af.of_below (Bq _ _).drew
  have hkd : w4.drew.heap[w.heap.size + 1]? = some (.cells #[.int .i64 0, .int .i64 0, .string ⟨#[]⟩] 26) := HX4.out.2.1
  have htd : w4.drew.heap[w.heap.size + 1 + 1]? = some (.cells #[.int .i64 0, .string ⟨#[]⟩, .int .i64 0, .int .i64 0, .string ⟨#[]⟩, .slice none 0 0, .slice none 0 0] 30) := HX4.out.2.2.1
  have hne2 : w.heap.size + 1 ≠ w.heap.size + 1 + 1 := by omega
  clear hB hg hgx hn hek HKQ HRR HKF
  go_wp2
  refine wp_region_noPanic ?_
  refine wp_region_held_drew (S := (fun w' => w'.cell? ⟨w.heap.size, 0, none⟩ = some (.int .i64 no) /\ w'.cell? ⟨w.heap.size, 1, none⟩ = some (.int .i64 xc) /\ w'.cell? ⟨w.heap.size, 2, none⟩ = some (.slice (some ⟨a, o, none⟩) L ca) /\ w'.cell? ⟨w3.heap.size, 0, none⟩ = some (.int .i64 kk) /\ w'.cell? ⟨w3.heap.size, 1, none⟩ = some (.int .i64 kn) /\ w'.cell? ⟨w3.heap.size, 2, none⟩ = some (.string ks))) (by kernel_rfl) (HSS.out _ hT4) (fun hHeld => ?_)
  refine wI 0 hHeld ?_; try simp only [gS]
  refine wI 1 hHeld ?_; try simp only [gS]
  refine wI 2 hHeld ?_; try simp only [gS]
  refine wI 3 hHeld ?_; try simp only [gS]
  refine wB 4 rfl (fun K hK => ?_)
  go_simp
  refine (hF ek _).mono ?_
  rintro e w5 ⟨rfl, hb5⟩
  have hT5 := hT4.trans (Af.of_below hb5)
  have hk5 := Aa hkd hb5
  have ht5 := Aa htd hb5
  refine hK.out _ _ (HSS.out _ hT5) (fun hHeld2 => ?_)
  clear hK K hHeld
  have hHeld := hHeld2; clear hHeld2
  try simp only [gS]
  refine wB 5 rfl (fun K hK => ?_)
  refine Bk (by rfl) _ _ _ (by rfl) (w.heap.size + 1) #[.int .i64 kk, .int .i64 kn, .string ks] (by rfl) (by rfl) _ _ hk5 (by kernel_rfl) (by rfl) (by simp [Value.oneCell']) ?_
  refine hK.out _ _ (HSS.out _ (hT5.trans (Af.setRow _ _ _ (.inl rfl)))) (fun hHeld2 => ?_)
  clear hK K hHeld
  have hHeld := hHeld2; clear hHeld2
  try simp only [gS]
  refine wB 6 rfl (fun K hK => ?_)
  refine Bk (by rfl) _ _ _ (by rfl) (w.heap.size + 1 + 1) #[.int .i64 0, .string ⟨#[]⟩, .int .i64 0, .int .i64 0, .string ⟨#[]⟩, .slice none 0 0, .slice none 0 0] (by rfl) (by rfl) _ _ ((setRow_other _ _ _ _ (Ne.symm hne2)).trans ht5) (by kernel_rfl) (by rfl) (by simp [Value.oneCell']) ?_
  refine hK.out _ _ (HSS.out _ (hT5.trans ((Af.setRow _ _ _ (.inl rfl)).trans (Af.setRow _ _ _ (.inr rfl))))) (fun hHeld2 => ?_)
  clear hK K hHeld
  have hHeld := hHeld2; clear hHeld2
  try simp only [gS]
  refine wI 7 hHeld ?_; try simp only [gS]
  refine wpAnyH_done (by kernel_rfl) ?_ _
  refine NoPanic.normal ?_
  obtain ⟨hZk, hZt, hTZ⟩ := Tp (B := w.heap.size) (ck := #[.int .i64 kk, .int .i64 kn, .string ks]) (ct := #[.int .i64 0, .string ⟨#[]⟩, .int .i64 0, .int .i64 0, .string ⟨#[]⟩, .slice none 0 0, .slice none 0 0]) hne2 hk5 ht5 (.inl rfl)
  obtain ⟨q0, q1, q2, _⟩ := Az hZk
  obtain ⟨e0, e1, e2, e3, e4, e5, e6, _⟩ := Ay hZt
  try go_wp2
  refine bodyPost_ret (v := .tuple #[.agg #[.int .i64 kk, .int .i64 kn, .string ks], .agg #[.int .i64 0, .string ⟨#[]⟩, .int .i64 0, .int .i64 0, .string ⟨#[]⟩, .slice none 0 0, .slice none 0 0], Ci no ek]) (by simp [results, Tryz.results110, go_sem, q0, q1, q2, e0, e1, e2, e3, e4, e5, e6, Ci]) rfl ?_
  exact ⟨⟨kk, kn, ks⟩, _, rfl, DB, ⟨r, (HRD4.out.below (((Bq _ w4).drew).trans hb5)).news hTZ (by omega) (by omega)⟩, (HX4.out.2.2.2.below (((Bq _ w4).drew).trans hb5)).news hTZ (by omega)⟩
 case pos =>
  subst hek
  have hkq2 : (Co l).2 = 0 := by rw [HKQ.out]; rfl
  have hkq1 : (Co l).1 = ⟨kk, kn, ks⟩ := by rw [HKQ.out]; rfl
  have hrr2 : Bl (n + 1) d ⟨no, xc, l⟩ r = rr := by rw [<- HRR.out, if_neg (fun h => h hkq2)]
  obtain rfl : kq = ⟨kk, kn, ks⟩ := HKF.out.symm.trans hkq1
  clear HKF
  rw [Bl] at hrr2
  dsimp only at hrr2
  have hcap : L <= ca := by
   obtain ⟨A', c', hv, hc, _⟩ := HY.out
   injection hv with _ _ e3
   rw [HL.out] at hc
   omega
  obtain ⟨A3, hA3a, hA3b, hT3⟩ : ∃ A3 : Option Addr, (ca = 2 -> A3 = some ⟨a, o, none⟩) /\ (ca ≠ 2 -> A3 = some ⟨a, o + 6, none⟩) /\ ∀ X, Below W1.heap.size W1 X \/ AB R b W1 X -> AO X (.slice A3 (l.drop 2).length (ca - 2)) (l.drop 2) := by
   have hY2 : ∀ X, Below W1.heap.size W1 X \/ AB R b W1 X -> AO X (.slice (some ⟨a, o, none⟩) L ca) l := fun X hX => by
    obtain ⟨A', c', hv, hc, ⟨A'', c'', hv2, ht⟩, hf⟩ := HY.out
    rw [HL.out] at hv2 hf
    refine ⟨A'', c'', by rw [HL.out]; exact hv2, fun k hk => ?_⟩
    obtain ⟨bb, oo, ha, hlt2, g0, g1, g2⟩ := ht k hk
    rcases hX with hX | hX
    ·exact ⟨bb, oo, ha, Nat.lt_of_lt_of_le hlt2 hX.size, Ab g0 hX, Ab g1 hX, Ab g2 hX⟩
    ·have hbb := hf bb oo _ c'' (by rw [hv2, ha]) (by omega)
     have hnn : ¬ (bb = R \/ bb = b) := fun h => h.elim (fun h => by omega) hbb.2
     exact ⟨bb, oo, ha, Nat.lt_of_lt_of_le hlt2 hX.size, Af.cell hX g0 hnn, Af.cell hX g1 hnn, Af.cell hX g2 hnn⟩
   by_cases hc2 : ca = 2
   ·refine ⟨some ⟨a, o, none⟩, fun _ => rfl, fun h => absurd hc2 h, fun X _ => ?_⟩
    have : l.drop 2 = [] := List.eq_nil_of_length_eq_zero (by rw [List.length_drop, HL.out]; omega)
    rw [this]
    exact ⟨_, _, rfl, fun k hk => by simp at hk⟩
   ·refine ⟨some ⟨a, o + 6, none⟩, fun h => absurd h hc2, fun _ => rfl, fun X hX => ?_⟩
    have := (hY2 X hX).drop (q := 2) (by rw [HL.out]; omega) (ca - 2)
    rw [List.length_drop, HL.out]
    exact this
  have HT3 := hid hT3
  obtain ⟨rl, hrl⟩ : ∃ z, l.drop 2 = z := ⟨_, rfl⟩
  have hrll : rl.length = L - 2 := by rw [<- hrl, List.length_drop, HL.out]
  have hrfx : Fx rl := by
   rw [<- hrl]
   refine ⟨by rw [List.length_drop]; have := hgx.fx.len; dsimp only at this; omega, fun q hq => ?_⟩
   have := hgx.fx.str (2 + q) (by dsimp only; rw [List.length_drop] at hq; omega)
   dsimp only at this
   have e : (l.drop 2).getD q ⟨0, [], 0⟩ = l.getD (2 + q) ⟨0, [], 0⟩ := by simp [List.getD]
   rw [e]; exact this
  rw [hrl] at hrr2 HT3
  simp only [HL.out, show (L = 2) = (rl.length = 0) from propext (by omega)] at hrr2
  have HRL := hid (Ai hrll hrfx)
  have HR2 := hid hrr2
  have hgt := hg.tail
  obtain ⟨n3, hn3⟩ : ∃ z, L - 2 = z := ⟨_, rfl⟩
  obtain ⟨c3, hc3⟩ : ∃ z, ca - 2 = z := ⟨_, rfl⟩
  rw [hn3] at hrll
  rw [hc3] at HT3
  have HN3 := hid (Ai hrll (show rl.length <= c3 by omega))
  have h2c : (2 : Int) <= (L : Int) := by omega
  have hLc : (L : Int) <= (ca : Int) := by omega
  have h2ca : (2 : Int) <= (ca : Int) := by omega
  have hNN : (w4.alloc (.cells #[.int .i64 0, .int .i64 0, .slice none 0 0] 107)).drew.heap[w4.heap.size]? = some (.cells #[.int .i64 0, .int .i64 0, .slice none 0 0] 107) := Wn w4 _
  have HSS := hid (fun (X : World) (hT : Below w4.heap.size w4 X) => Ai (Ab x0 hT) (Ai (Ab x1 hT) (Ab x2 hT)))
  have hd4 : Below w4.heap.size w4 w4.drew := (Bq _ _).drew
  have hq4 : AB R b W1 w4 := HQ4.out
  clear hT3 hg hgx hkq2 hkq1 hrr2 hrl HKQ HRR hkey HY HH hrll hrfx
  by_cases hc2 : ca = 2
  case' pos =>
   obtain rfl := hA3a hc2
   clear hA3a hA3b
   subst hc2
   obtain rfl : L = 2 := by omega
   have e0 : n3 = 0 := by omega
   have e1 : c3 = 0 := by omega
   subst e0 e1
   clear hn3 hc3
   go_wp2
   refine wp_region_noPanic ?_
   refine wp_region_held_drew (S := (fun w' => w'.cell? ⟨w.heap.size, 0, none⟩ = some (.int .i64 no) /\ w'.cell? ⟨w.heap.size, 1, none⟩ = some (.int .i64 xc) /\ w'.cell? ⟨w.heap.size, 2, none⟩ = some (.slice (some ⟨a, o, none⟩) 2 2))) (by kernel_rfl) (HSS.out _ hd4) (fun hHeld => ?_)
   refine wI 0 hHeld ?_; try simp only [gS]
   refine wI 1 hHeld ?_; try simp only [gS]
   refine wI 2 hHeld ?_; try simp only [gS]
   refine wI 3 hHeld ?_; try simp only [gS]
   refine wI 4 hHeld ?_; try simp only [gS]
   refine wI 5 hHeld ?_; try simp only [gS]
   refine wI 6 hHeld ?_; try simp only [gS]
   refine wI 7 hHeld ?_; try simp only [gS]
   refine wB 8 rfl (fun K hK => ?_)
   go_simp
   refine hK.out _ _ (HSS.out _ (hd4.alloc Nr _)) (fun hHeld2 => ?_)
   clear hK K hHeld
   have hHeld := hHeld2; clear hHeld2
   try simp only [gS]
   refine wB 9 rfl (fun K hK => ?_)
   refine Bk (by rfl) _ _ _ (by rfl) w4.heap.size #[.int .i64 no, .int .i64 xc, .slice (some ⟨a, o, none⟩) 0 0] (by rfl) (by rfl) _ _ hNN (by kernel_rfl) (by rfl) (by simp [Value.oneCell']) ?_
   refine hK.out _ _ (HSS.out _ (Cu (hd4.alloc Nr _) Nr _)) (fun hHeld2 => ?_)
   clear hK K hHeld
   have hHeld := hHeld2; clear hHeld2
   try simp only [gS]
   refine wpAnyH_done (by kernel_rfl) ?_ _
   refine NoPanic.normal ?_
   have HB6 := hid (Cu (((Bq _ w4).alloc Nr (.cells #[.int .i64 0, .int .i64 0, .slice none 0 0] 107)).drew) Nr #[.int .i64 no, .int .i64 xc, .slice (some ⟨a, o, none⟩) 0 0])
   have HE6 := hid (setRow_heap _ _ _ #[.int .i64 no, .int .i64 xc, .slice (some ⟨a, o, none⟩) 0 0] _ _ hNN)
   obtain ⟨w6, hw6⟩ : ∃ z, (w4.alloc (.cells #[.int .i64 0, .int .i64 0, .slice none 0 0] 107)).drew.setRow w4.heap.size #[.int .i64 no, .int .i64 xc, .slice (some ⟨a, o, none⟩) 0 0] = z := ⟨_, rfl⟩
   rw [hw6] at HE6
   rw [hw6] at HB6 |-
   clear hHeld hNN hd4 HSS hw6 hw4
  case' neg =>
   obtain rfl := hA3b hc2
   clear hA3a hA3b
   go_wp2
   refine wp_region_noPanic ?_
   refine wp_region_held_drew (S := (fun w' => w'.cell? ⟨w.heap.size, 0, none⟩ = some (.int .i64 no) /\ w'.cell? ⟨w.heap.size, 1, none⟩ = some (.int .i64 xc) /\ w'.cell? ⟨w.heap.size, 2, none⟩ = some (.slice (some ⟨a, o, none⟩) L ca))) (by kernel_rfl) (HSS.out _ hd4) (fun hHeld => ?_)
   refine wI 0 hHeld ?_; try simp only [gS]
   refine wI 1 hHeld ?_; try simp only [gS]
   refine wI 2 hHeld ?_; try simp only [gS]
   refine wI 3 hHeld ?_; try simp only [gS]
   refine wI 4 hHeld ?_; try simp only [gS]
   refine wI 5 hHeld ?_; try simp only [gS]
   refine wI 6 hHeld ?_; try simp only [gS]
   refine wI 7 hHeld ?_; try simp only [gS]
   refine wB 8 rfl (fun K hK => ?_)
   go_simp
   refine hK.out _ _ (HSS.out _ (hd4.alloc Nr _)) (fun hHeld2 => ?_)
   clear hK K hHeld
   have hHeld := hHeld2; clear hHeld2
   try simp only [gS]
   refine wB 9 rfl (fun K hK => ?_)
   refine Bk (by rfl) _ _ _ (by rfl) w4.heap.size #[.int .i64 no, .int .i64 xc, .slice (some ⟨a, o + 6, none⟩) n3 c3] (by rfl) (by rfl) _ _ hNN (by kernel_rfl) (by rfl) (by simp [Value.oneCell']) ?_
   refine hK.out _ _ (HSS.out _ (Cu (hd4.alloc Nr _) Nr _)) (fun hHeld2 => ?_)
   clear hK K hHeld
   have hHeld := hHeld2; clear hHeld2
   try simp only [gS]
   refine wpAnyH_done (by kernel_rfl) ?_ _
   refine NoPanic.normal ?_
   have HB6 := hid (Cu (((Bq _ w4).alloc Nr (.cells #[.int .i64 0, .int .i64 0, .slice none 0 0] 107)).drew) Nr #[.int .i64 no, .int .i64 xc, .slice (some ⟨a, o + 6, none⟩) n3 c3])
   have HE6 := hid (setRow_heap _ _ _ #[.int .i64 no, .int .i64 xc, .slice (some ⟨a, o + 6, none⟩) n3 c3] _ _ hNN)
   obtain ⟨w6, hw6⟩ : ∃ z, (w4.alloc (.cells #[.int .i64 0, .int .i64 0, .slice none 0 0] 107)).drew.setRow w4.heap.size #[.int .i64 no, .int .i64 xc, .slice (some ⟨a, o + 6, none⟩) n3 c3] = z := ⟨_, rfl⟩
   rw [hw6] at HE6
   rw [hw6] at HB6 |-
   clear hHeld hNN hd4 HSS hw6 hw4
  all_goals
   have hbA : Below w6.heap.size w6 (w6.alloc (.cells #[.int .i64 0, .string ⟨#[]⟩, .int .i64 0, .int .i64 0, .string ⟨#[]⟩, .slice none 0 0, .slice none 0 0] 30)) := (Bq _ w6).alloc Nr _
   have hN7 := Wn w6 (.cells #[.int .i64 0, .string ⟨#[]⟩, .int .i64 0, .int .i64 0, .string ⟨#[]⟩, .slice none 0 0, .slice none 0 0] 30)
   have hbW := HB6.out.trans (hbA.mono HB6.out.size)
   have HX7 := hid (Ai (Aa HX4.out.1 hbW) (Ai (Aa HX4.out.2.1 hbW) (Ai (Aa HX4.out.2.2.1 hbW) (HX4.out.2.2.2.below hbW))))
   have HK7 := hid (Ai (Aa HK9.out hbW) (Ai (Aa HE6.out hbA) hN7))
   have HRD7 := hid (HRD4.out.below hbW)
   have hsz6 : w4.heap.size <= w6.heap.size := HB6.out.size
   have hs4 : w3.heap.size < w4.heap.size := by rw [HS4.out]; omega
   have hT7 := HT3.out _ (.inr (hq4.below hbW))
   obtain ⟨w7, hw7⟩ : ∃ z, w6.alloc (.cells #[.int .i64 0, .string ⟨#[]⟩, .int .i64 0, .int .i64 0, .string ⟨#[]⟩, .slice none 0 0, .slice none 0 0] 30) = z := ⟨_, rfl⟩
   rw [hw7] at HX7 HK7 HRD7 hT7
   have hlt7 : w6.heap.size < w7.heap.size := (Gl HK7.out.2.2)
   have hBG := Ge no xc _ _ rl w7 hT7
   rw [HN3.out.1] at hBG
   have HT7 := hid hT7
   clear hbA hN7 hbW HX4 HK9 HE6 HRD4 HB6 hq4 HT3 hT7 x0 x1 x2 y0 y1 y2
   obtain ⟨z0, z1, z2, _⟩ := Az HK7.out.2.1
   skip
   go_wp2_with fail
   refine hBG.mono ?_
   rintro e w8 ⟨rfl, hb8⟩
   have HX8 := hid (Ai (Aa HX7.out.1 hb8) (Ai (Aa HX7.out.2.1 hb8) (Ai (Aa HX7.out.2.2.1 hb8) (HX7.out.2.2.2.below hb8))))
   have HK8 := hid (Ai (Aa HK7.out.1 hb8) (Ai (Aa HK7.out.2.1 hb8) (Aa HK7.out.2.2 hb8)))
   have HRD8 := hid (HRD7.out.below hb8)
   have HT8 := hid (HT7.out.below hb8)
   have hlt8 : w6.heap.size < w8.heap.size := Nat.lt_of_lt_of_le hlt7 hb8.size
   have hne2 : w.heap.size + 1 ≠ w.heap.size + 1 + 1 := by omega
   clear hBG hb8 HX7 HK7 HRD7 HT7 z0 z1 z2 hw7
   have a1 := KV
   have a2 := PC
   have a3 := Q7
   have a4 := Kv
   obtain ⟨g, hgg⟩ : ∃ z, Bp rl = z := ⟨_, rfl⟩
   rw [hgg] at HR2 |-
   clear hgg
   obtain ⟨x0, x1, x2, _⟩ := Az HX8.out.1
   obtain ⟨z0, z1, z2, _⟩ := Az HK8.out.2.1
   have hgn : (∃ s, g = .name s) \/ ((∀ W, (Instr.typeAssert (L5 g) 147 152 true).run Tryz.prog W = .ok (.tuple #[.agg #[.string ⟨#[]⟩], .bool false]) W) /\ (if rl.length = 0 then Ap n no xc d r else Bu no rl d r) = rr) := by
    cases g with
    | name s => exact .inl ⟨s, rfl⟩
    | dash => exact .inr ⟨a2 _, HR2.out⟩
    | key => exact .inr ⟨a3 _, HR2.out⟩
    | plain => exact .inr ⟨a4 _, HR2.out⟩
   clear a2 a3 a4
   rcases hgn with ⟨s, rfl⟩ | ⟨hta, hRR⟩
   ·clear HT8
    unfold L5
    have hbA := (Bq _ w8).alloc Nr (.cells #[.string ⟨s.toArray⟩] 152)
    have HX9 := hid (Ai (Aa HX8.out.1 hbA) (Ai (Aa HX8.out.2.1 hbA) (Ai (Aa HX8.out.2.2.1 hbA) (HX8.out.2.2.2.below hbA))))
    have HK9 := hid (Ai (Aa HK8.out.1 hbA) (Ai (Aa HK8.out.2.1 hbA) (Aa HK8.out.2.2 hbA)))
    obtain ⟨nc0, _⟩ := Oj (Wn w8 (.cells #[.string ⟨s.toArray⟩] 152))
    have hNM := fun A lf cf => MJ hB no xc xc A lf cf d ⟨s.toArray⟩ r (w8.alloc (.cells #[.string ⟨s.toArray⟩] 152)) (HRD8.out.below hbA) hgt hd (by omega)
    rw [show (⟨s.toArray⟩ : ByteArray).data.toList = s by simp, show D7 no s (Ap n no xc d r) = rr from HR2.out] at hNM
    obtain ⟨w9, hw9⟩ : ∃ z, w8.alloc (.cells #[.string ⟨s.toArray⟩] 152) = z := ⟨_, rfl⟩
    rw [hw9] at HX9 HK9 nc0 hNM
    have hlt9 : w6.heap.size < w9.heap.size := (Gl HK9.out.2.2)
    clear hbA x0 x1 x2 z0 z1 z2 HX8 HK8 HRD8
    obtain ⟨x0, x1, x2, _⟩ := Az HX9.out.1
    obtain ⟨z0, z1, z2, _⟩ := Az HK9.out.2.1
    go_wp2_with fail
    refine (hNM _ _ _).mono ?_
    intro e w10 hp
    clear hNM nc0
    obtain ⟨tk, tnm, xk, xn, ys, KA0, kl, kc, TA, tl, tc, ev, es2, rfl, hrd, hm, hfin⟩ := hp.opn
    have hNk := hm.heap HX9.out.2.1 (by omega) (by omega)
    have hNt := hm.heap HX9.out.2.2.1 (by omega) (by omega)
    have hK := hm.heap HK9.out.1 (by omega) (by omega)
    have hN := hm.heap HK9.out.2.2 (by omega) (by omega)
    have hmd := HX9.out.2.2.2.trans hm
    have hsz10 := hm.size
    have hN11 := CW hN (.int .i64 tk) (.string tnm) (.int .i64 xk) (.int .i64 xn) (.string ys) (.slice KA0 kl kc) (.slice TA tl tc)
    have hT11 := CX (C := fun k => k = w6.heap.size) (B := w.heap.size) w10 (.int .i64 tk) (.string tnm) (.int .i64 xk) (.int .i64 xn) (.string ys) (.slice KA0 kl kc) (.slice TA tl tc) rfl
    obtain ⟨p0, p1, p2, p3, p4, p5, p6, f0, f1, f2, f3, f4, f5, f6⟩ := Ay hN
    obtain ⟨w11, hw11⟩ : ∃ z, (((((((w10.setCell ⟨w6.heap.size, 0, none⟩ (.int .i64 tk)).setCell ⟨w6.heap.size, 1, none⟩ (.string tnm)).setCell ⟨w6.heap.size, 2, none⟩ (.int .i64 xk)).setCell ⟨w6.heap.size, 3, none⟩ (.int .i64 xn)).setCell ⟨w6.heap.size, 4, none⟩ (.string ys)).setCell ⟨w6.heap.size, 5, none⟩ (.slice KA0 kl kc)).setCell ⟨w6.heap.size, 6, none⟩ (.slice TA tl tc)) = z := ⟨_, rfl⟩
    rw [hw11] at hN11 hT11
    have hkd : w11.drew.heap[w.heap.size + 1]? = _ := hT11.heap hNk (by omega) rfl
    have htd : w11.drew.heap[w.heap.size + 1 + 1]? = _ := hT11.heap hNt (by omega) rfl
    have hT4 : Af (fun k => k = w.heap.size + 1 \/ k = w.heap.size + 1 + 1) w.heap.size w11 w11.drew := Af.of_below (Bq _ _).drew
    have HSS := hid (fun (X : World) (hT : Af (fun k => k = w.heap.size + 1 \/ k = w.heap.size + 1 + 1) w.heap.size w11 X) => Ux (a := w3.heap.size) (c := w6.heap.size) hT (hT11.heap hK (by omega) rfl) hN11 (by omega) (by omega))
    have HFI := hid (Ai hfin (Ai (hmd.news hT11 (fun k hk => by omega)) (Ai (hrd.news hT11 (by omega) (fun k hk => by omega)) (B4.of_turn (S := fun k => w9.heap.size <= k) hT11 (fun k hk => by omega)))))
    clear hfin hm hrd hNk hNt hK hN hmd hN11 hT11 x0 x1 x2 z0 z1 z2
    go_wp2
    refine wp_region_noPanic ?_
    refine wp_region_held_drew (S := (fun w' => w'.cell? ⟨w3.heap.size, 0, none⟩ = some (.int .i64 kk) /\ w'.cell? ⟨w3.heap.size, 1, none⟩ = some (.int .i64 kn) /\ w'.cell? ⟨w3.heap.size, 2, none⟩ = some (.string ks) /\ w'.cell? ⟨w6.heap.size, 0, none⟩ = some (.int .i64 tk) /\ w'.cell? ⟨w6.heap.size, 1, none⟩ = some (.string tnm) /\ w'.cell? ⟨w6.heap.size, 2, none⟩ = some (.int .i64 xk) /\ w'.cell? ⟨w6.heap.size, 3, none⟩ = some (.int .i64 xn) /\ w'.cell? ⟨w6.heap.size, 4, none⟩ = some (.string ys) /\ w'.cell? ⟨w6.heap.size, 5, none⟩ = some (.slice KA0 kl kc) /\ w'.cell? ⟨w6.heap.size, 6, none⟩ = some (.slice TA tl tc))) (by kernel_rfl) (HSS.out _ hT4) (fun hHeld => ?_)
    refine wI 0 hHeld ?_; try simp only [gS]
    refine wI 1 hHeld ?_; try simp only [gS]
    refine wI 2 hHeld ?_; try simp only [gS]
    refine wB 3 rfl (fun K hK => ?_)
    refine Bk (by rfl) _ _ _ (by rfl) (w.heap.size + 1) #[.int .i64 kk, .int .i64 kn, .string ks] (by rfl) (by rfl) _ _ hkd (by kernel_rfl) (by rfl) (by simp [Value.oneCell']) ?_
    refine hK.out _ _ (HSS.out _ (hT4.trans (Af.setRow _ _ _ (.inl rfl)))) (fun hHeld2 => ?_)
    clear hK K hHeld
    have hHeld := hHeld2; clear hHeld2
    try simp only [gS]
    refine wB 4 rfl (fun K hK => ?_)
    refine Bk (by rfl) _ _ _ (by rfl) (w.heap.size + 1 + 1) #[.int .i64 tk, .string tnm, .int .i64 xk, .int .i64 xn, .string ys, .slice KA0 kl kc, .slice TA tl tc] (by rfl) (by rfl) _ _ ((setRow_other _ _ _ _ (Ne.symm hne2)).trans htd) (by kernel_rfl) (by rfl) (by simp [Value.oneCell']) ?_
    refine hK.out _ _ (HSS.out _ (hT4.trans ((Af.setRow _ _ _ (.inl rfl)).trans (Af.setRow _ _ _ (.inr rfl))))) (fun hHeld2 => ?_)
    clear hK K hHeld
    have hHeld := hHeld2; clear hHeld2
    try simp only [gS]
    refine wI 5 hHeld ?_; try simp only [gS]
    refine wpAnyH_done (by kernel_rfl) ?_ _
    refine NoPanic.normal ?_
    obtain ⟨hZk, hZt, hTZ⟩ := Tp (B := w.heap.size) (ck := #[.int .i64 kk, .int .i64 kn, .string ks]) (ct := #[.int .i64 tk, .string tnm, .int .i64 xk, .int .i64 xn, .string ys, .slice KA0 kl kc, .slice TA tl tc]) hne2 hkd htd (.inl rfl)
    obtain ⟨q0, q1, q2, _⟩ := Az hZk
    obtain ⟨e0, e1, e2, e3, e4, e5, e6, _⟩ := Ay hZt
    try go_wp2
    refine bodyPost_ret (v := .tuple #[.agg #[.int .i64 kk, .int .i64 kn, .string ks], .agg #[.int .i64 tk, .string tnm, .int .i64 xk, .int .i64 xn, .string ys, .slice KA0 kl kc, .slice TA tl tc], ev]) (by simp [results, Tryz.results110, go_sem, q0, q1, q2, e0, e1, e2, e3, e4, e5, e6]) rfl ?_
    have hTT := hT4.trans hTZ
    exact HFI.out.1 w _ ⟨kk, kn, ks⟩ (by omega) (HFI.out.2.2.2.trans (B4.of_turn hTT (fun k hk => by omega))) (HFI.out.2.2.1.news hTT (by omega) (fun k hk => by omega)) (HFI.out.2.1.news hTT (fun k hk => by omega))
   ·clear a1 HR2
    obtain ⟨gv, hgv⟩ : ∃ z, L5 g = z := ⟨_, rfl⟩
    rw [hgv] at hta |-
    clear hgv
    by_cases h0 : rl.length = 0
    ·rw [if_pos h0] at hRR
     have h0i : ((rl.length : Int) == 0) = true := by rw [h0]; rfl
     rw [HN3.out.1] at h0i
     have hBB := fun A lf cf => hB no xc xc A lf cf d r w8 HRD8.out hgt hd (by omega)
     rw [hRR] at hBB
     clear hRR h0
     go_wp2_with fail
     refine (hBB _ _ _).mono ?_
     intro e w10 hp
     clear hBB
     obtain ⟨tk, tnm, xk, xn, ys, KA0, kl, kc, TA, tl, tc, ev, es2, rfl, hrd, hm, hfin⟩ := hp.opn
     have hNk := hm.heap HX8.out.2.1 (by omega) (by omega)
     have hNt := hm.heap HX8.out.2.2.1 (by omega) (by omega)
     have hK := hm.heap HK8.out.1 (by omega) (by omega)
     have hN := hm.heap HK8.out.2.2 (by omega) (by omega)
     have hmd := HX8.out.2.2.2.trans hm
     have hsz10 := hm.size
     have hN11 := CW hN (.int .i64 tk) (.string tnm) (.int .i64 xk) (.int .i64 xn) (.string ys) (.slice KA0 kl kc) (.slice TA tl tc)
     have hT11 := CX (C := fun k => k = w6.heap.size) (B := w.heap.size) w10 (.int .i64 tk) (.string tnm) (.int .i64 xk) (.int .i64 xn) (.string ys) (.slice KA0 kl kc) (.slice TA tl tc) rfl
     obtain ⟨p0, p1, p2, p3, p4, p5, p6, f0, f1, f2, f3, f4, f5, f6⟩ := Ay hN
     obtain ⟨w11, hw11⟩ : ∃ z, (((((((w10.setCell ⟨w6.heap.size, 0, none⟩ (.int .i64 tk)).setCell ⟨w6.heap.size, 1, none⟩ (.string tnm)).setCell ⟨w6.heap.size, 2, none⟩ (.int .i64 xk)).setCell ⟨w6.heap.size, 3, none⟩ (.int .i64 xn)).setCell ⟨w6.heap.size, 4, none⟩ (.string ys)).setCell ⟨w6.heap.size, 5, none⟩ (.slice KA0 kl kc)).setCell ⟨w6.heap.size, 6, none⟩ (.slice TA tl tc)) = z := ⟨_, rfl⟩
     rw [hw11] at hN11 hT11
     have hkd : w11.drew.heap[w.heap.size + 1]? = _ := hT11.heap hNk (by omega) rfl
     have htd : w11.drew.heap[w.heap.size + 1 + 1]? = _ := hT11.heap hNt (by omega) rfl
     have hT4 : Af (fun k => k = w.heap.size + 1 \/ k = w.heap.size + 1 + 1) w.heap.size w11 w11.drew := Af.of_below (Bq _ _).drew
     have HSS := hid (fun (X : World) (hT : Af (fun k => k = w.heap.size + 1 \/ k = w.heap.size + 1 + 1) w.heap.size w11 X) => Ux (a := w3.heap.size) (c := w6.heap.size) hT (hT11.heap hK (by omega) rfl) hN11 (by omega) (by omega))
     have HFI := hid (Ai hfin (Ai (hmd.news hT11 (fun k hk => by omega)) (Ai (hrd.news hT11 (by omega) (fun k hk => by omega)) (B4.of_turn (S := fun k => w8.heap.size <= k) hT11 (fun k hk => by omega)))))
     clear hfin hm hrd hNk hNt hK hN hmd hN11 hT11 x0 x1 x2 z0 z1 z2
     go_wp2
     refine wp_region_noPanic ?_
     refine wp_region_held_drew (S := (fun w' => w'.cell? ⟨w3.heap.size, 0, none⟩ = some (.int .i64 kk) /\ w'.cell? ⟨w3.heap.size, 1, none⟩ = some (.int .i64 kn) /\ w'.cell? ⟨w3.heap.size, 2, none⟩ = some (.string ks) /\ w'.cell? ⟨w6.heap.size, 0, none⟩ = some (.int .i64 tk) /\ w'.cell? ⟨w6.heap.size, 1, none⟩ = some (.string tnm) /\ w'.cell? ⟨w6.heap.size, 2, none⟩ = some (.int .i64 xk) /\ w'.cell? ⟨w6.heap.size, 3, none⟩ = some (.int .i64 xn) /\ w'.cell? ⟨w6.heap.size, 4, none⟩ = some (.string ys) /\ w'.cell? ⟨w6.heap.size, 5, none⟩ = some (.slice KA0 kl kc) /\ w'.cell? ⟨w6.heap.size, 6, none⟩ = some (.slice TA tl tc))) (by kernel_rfl) (HSS.out _ hT4) (fun hHeld => ?_)
     refine wI 0 hHeld ?_; try simp only [gS]
     refine wI 1 hHeld ?_; try simp only [gS]
     refine wI 2 hHeld ?_; try simp only [gS]
     refine wB 3 rfl (fun K hK => ?_)
     refine Bk (by rfl) _ _ _ (by rfl) (w.heap.size + 1) #[.int .i64 kk, .int .i64 kn, .string ks] (by rfl) (by rfl) _ _ hkd (by kernel_rfl) (by rfl) (by simp [Value.oneCell']) ?_
     refine hK.out _ _ (HSS.out _ (hT4.trans (Af.setRow _ _ _ (.inl rfl)))) (fun hHeld2 => ?_)
     clear hK K hHeld
     have hHeld := hHeld2; clear hHeld2
     try simp only [gS]
     refine wB 4 rfl (fun K hK => ?_)
     refine Bk (by rfl) _ _ _ (by rfl) (w.heap.size + 1 + 1) #[.int .i64 tk, .string tnm, .int .i64 xk, .int .i64 xn, .string ys, .slice KA0 kl kc, .slice TA tl tc] (by rfl) (by rfl) _ _ ((setRow_other _ _ _ _ (Ne.symm hne2)).trans htd) (by kernel_rfl) (by rfl) (by simp [Value.oneCell']) ?_
     refine hK.out _ _ (HSS.out _ (hT4.trans ((Af.setRow _ _ _ (.inl rfl)).trans (Af.setRow _ _ _ (.inr rfl))))) (fun hHeld2 => ?_)
     clear hK K hHeld
     have hHeld := hHeld2; clear hHeld2
     try simp only [gS]
     refine wI 5 hHeld ?_; try simp only [gS]
     refine wpAnyH_done (by kernel_rfl) ?_ _
     refine NoPanic.normal ?_
     obtain ⟨hZk, hZt, hTZ⟩ := Tp (B := w.heap.size) (ck := #[.int .i64 kk, .int .i64 kn, .string ks]) (ct := #[.int .i64 tk, .string tnm, .int .i64 xk, .int .i64 xn, .string ys, .slice KA0 kl kc, .slice TA tl tc]) hne2 hkd htd (.inl rfl)
     obtain ⟨q0, q1, q2, _⟩ := Az hZk
     obtain ⟨e0, e1, e2, e3, e4, e5, e6, _⟩ := Ay hZt
     try go_wp2
     refine bodyPost_ret (v := .tuple #[.agg #[.int .i64 kk, .int .i64 kn, .string ks], .agg #[.int .i64 tk, .string tnm, .int .i64 xk, .int .i64 xn, .string ys, .slice KA0 kl kc, .slice TA tl tc], ev]) (by simp [results, Tryz.results110, go_sem, q0, q1, q2, e0, e1, e2, e3, e4, e5, e6]) rfl ?_
     have hTT := hT4.trans hTZ
     exact HFI.out.1 w _ ⟨kk, kn, ks⟩ (by omega) (HFI.out.2.2.2.trans (B4.of_turn hTT (fun k hk => by omega))) (HFI.out.2.2.1.news hTT (by omega) (fun k hk => by omega)) (HFI.out.2.1.news hTT (fun k hk => by omega))
    ·rw [if_neg h0] at hRR
     have h0i : ((rl.length : Int) == 0) = false := by rw [beq_eq_false_iff_ne]; omega
     rw [HN3.out.1] at h0i
     try exact absurd HN3.out.1 h0
     all_goals
      have hVV := fun A lf cf => IU R b r no xc A lf cf rl _ _ d w8 HRD8.out HT8.out HN3.out.2 HRL.out.2 hd
      rw [hRR, HN3.out.1] at hVV
      clear hRR h0
      go_wp2_with fail
      refine (hVV _ _ _).mono ?_
      intro e w10 hp
      clear hVV
      obtain ⟨tk, tnm, xk, xn, ys, KA0, kl, kc, TA, tl, tc, ev, es2, rfl, hrd, hm, hfin⟩ := hp.opn
      have hNk := hm.heap HX8.out.2.1 (by omega) (by omega)
      have hNt := hm.heap HX8.out.2.2.1 (by omega) (by omega)
      have hK := hm.heap HK8.out.1 (by omega) (by omega)
      have hN := hm.heap HK8.out.2.2 (by omega) (by omega)
      have hmd := HX8.out.2.2.2.trans hm
      have hsz10 := hm.size
      have hN11 := CW hN (.int .i64 tk) (.string tnm) (.int .i64 xk) (.int .i64 xn) (.string ys) (.slice KA0 kl kc) (.slice TA tl tc)
      have hT11 := CX (C := fun k => k = w6.heap.size) (B := w.heap.size) w10 (.int .i64 tk) (.string tnm) (.int .i64 xk) (.int .i64 xn) (.string ys) (.slice KA0 kl kc) (.slice TA tl tc) rfl
      obtain ⟨p0, p1, p2, p3, p4, p5, p6, f0, f1, f2, f3, f4, f5, f6⟩ := Ay hN
      obtain ⟨w11, hw11⟩ : ∃ z, (((((((w10.setCell ⟨w6.heap.size, 0, none⟩ (.int .i64 tk)).setCell ⟨w6.heap.size, 1, none⟩ (.string tnm)).setCell ⟨w6.heap.size, 2, none⟩ (.int .i64 xk)).setCell ⟨w6.heap.size, 3, none⟩ (.int .i64 xn)).setCell ⟨w6.heap.size, 4, none⟩ (.string ys)).setCell ⟨w6.heap.size, 5, none⟩ (.slice KA0 kl kc)).setCell ⟨w6.heap.size, 6, none⟩ (.slice TA tl tc)) = z := ⟨_, rfl⟩
      rw [hw11] at hN11 hT11
      have hkd : w11.drew.heap[w.heap.size + 1]? = _ := hT11.heap hNk (by omega) rfl
      have htd : w11.drew.heap[w.heap.size + 1 + 1]? = _ := hT11.heap hNt (by omega) rfl
      have hT4 : Af (fun k => k = w.heap.size + 1 \/ k = w.heap.size + 1 + 1) w.heap.size w11 w11.drew := Af.of_below (Bq _ _).drew
      have HSS := hid (fun (X : World) (hT : Af (fun k => k = w.heap.size + 1 \/ k = w.heap.size + 1 + 1) w.heap.size w11 X) => Ux (a := w3.heap.size) (c := w6.heap.size) hT (hT11.heap hK (by omega) rfl) hN11 (by omega) (by omega))
      have HFI := hid (Ai hfin (Ai (hmd.news hT11 (fun k hk => by omega)) (Ai (hrd.news hT11 (by omega) (fun k hk => by omega)) (B4.of_turn (S := fun k => w8.heap.size <= k) hT11 (fun k hk => by omega)))))
      clear hfin hm hrd hNk hNt hK hN hmd hN11 hT11 x0 x1 x2 z0 z1 z2
      go_wp2
      refine wp_region_noPanic ?_
      refine wp_region_held_drew (S := (fun w' => w'.cell? ⟨w3.heap.size, 0, none⟩ = some (.int .i64 kk) /\ w'.cell? ⟨w3.heap.size, 1, none⟩ = some (.int .i64 kn) /\ w'.cell? ⟨w3.heap.size, 2, none⟩ = some (.string ks) /\ w'.cell? ⟨w6.heap.size, 0, none⟩ = some (.int .i64 tk) /\ w'.cell? ⟨w6.heap.size, 1, none⟩ = some (.string tnm) /\ w'.cell? ⟨w6.heap.size, 2, none⟩ = some (.int .i64 xk) /\ w'.cell? ⟨w6.heap.size, 3, none⟩ = some (.int .i64 xn) /\ w'.cell? ⟨w6.heap.size, 4, none⟩ = some (.string ys) /\ w'.cell? ⟨w6.heap.size, 5, none⟩ = some (.slice KA0 kl kc) /\ w'.cell? ⟨w6.heap.size, 6, none⟩ = some (.slice TA tl tc))) (by kernel_rfl) (HSS.out _ hT4) (fun hHeld => ?_)
      refine wI 0 hHeld ?_; try simp only [gS]
      refine wI 1 hHeld ?_; try simp only [gS]
      refine wI 2 hHeld ?_; try simp only [gS]
      refine wB 3 rfl (fun K hK => ?_)
      refine Bk (by rfl) _ _ _ (by rfl) (w.heap.size + 1) #[.int .i64 kk, .int .i64 kn, .string ks] (by rfl) (by rfl) _ _ hkd (by kernel_rfl) (by rfl) (by simp [Value.oneCell']) ?_
      refine hK.out _ _ (HSS.out _ (hT4.trans (Af.setRow _ _ _ (.inl rfl)))) (fun hHeld2 => ?_)
      clear hK K hHeld
      have hHeld := hHeld2; clear hHeld2
      try simp only [gS]
      refine wB 4 rfl (fun K hK => ?_)
      refine Bk (by rfl) _ _ _ (by rfl) (w.heap.size + 1 + 1) #[.int .i64 tk, .string tnm, .int .i64 xk, .int .i64 xn, .string ys, .slice KA0 kl kc, .slice TA tl tc] (by rfl) (by rfl) _ _ ((setRow_other _ _ _ _ (Ne.symm hne2)).trans htd) (by kernel_rfl) (by rfl) (by simp [Value.oneCell']) ?_
      refine hK.out _ _ (HSS.out _ (hT4.trans ((Af.setRow _ _ _ (.inl rfl)).trans (Af.setRow _ _ _ (.inr rfl))))) (fun hHeld2 => ?_)
      clear hK K hHeld
      have hHeld := hHeld2; clear hHeld2
      try simp only [gS]
      refine wI 5 hHeld ?_; try simp only [gS]
      refine wpAnyH_done (by kernel_rfl) ?_ _
      refine NoPanic.normal ?_
      obtain ⟨hZk, hZt, hTZ⟩ := Tp (B := w.heap.size) (ck := #[.int .i64 kk, .int .i64 kn, .string ks]) (ct := #[.int .i64 tk, .string tnm, .int .i64 xk, .int .i64 xn, .string ys, .slice KA0 kl kc, .slice TA tl tc]) hne2 hkd htd (.inl rfl)
      obtain ⟨q0, q1, q2, _⟩ := Az hZk
      obtain ⟨e0, e1, e2, e3, e4, e5, e6, _⟩ := Ay hZt
      try go_wp2
      refine bodyPost_ret (v := .tuple #[.agg #[.int .i64 kk, .int .i64 kn, .string ks], .agg #[.int .i64 tk, .string tnm, .int .i64 xk, .int .i64 xn, .string ys, .slice KA0 kl kc, .slice TA tl tc], ev]) (by simp [results, Tryz.results110, go_sem, q0, q1, q2, e0, e1, e2, e3, e4, e5, e6]) rfl ?_
      have hTT := hT4.trans hTZ
      exact HFI.out.1 w _ ⟨kk, kn, ks⟩ (by omega) (HFI.out.2.2.2.trans (B4.of_turn hTT (fun k hk => by omega))) (HFI.out.2.2.1.news hTT (by omega) (fun k hk => by omega)) (HFI.out.2.1.news hTT (fun k hk => by omega))
end
end Go.Proofs.YtaogfdffgdglkaaGreatDoor
