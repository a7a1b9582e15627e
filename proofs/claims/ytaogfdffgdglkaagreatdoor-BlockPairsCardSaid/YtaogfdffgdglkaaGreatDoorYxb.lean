/- What is proved: a part of the walk of the program and of its plain laws; no condition beside those that each theorem names. -/
import Derived.Test.YtaogfdffgdglkaaGreatDoorYxa
import Derived.Test.YtaogfdffgdglkaaGreatDoorYa
import Derived.Deep.QuietTactic
import Derived.BigQuiet
import Derived.Deep.RegionHeld3
namespace Go.Proofs.YtaogfdffgdglkaaGreatDoor
open Go Go.RowKit Go.Lib
set_option linter.unusedSimpArgs false
set_option linter.unusedVariables false
section
set_option maxRecDepth 100000
def Ci (no e : Int) : Value := .iface 105 (.agg #[.int .i64 no, .int .i64 e])
def JE (b : Nat) (w : World) : Prop := ∃ w0, Bz w0 /\ Cb w0 /\ w0.heap.size <= b /\ Below w0.heap.size w0 w
def AB (R b : Nat) (w w' : World) : Prop := Af (fun k => k = R \/ k = b) w.heap.size w w'
theorem AB.refl (R b : Nat) (w : World) : AB R b w w := Af.refl _ _ _
theorem AB.trans {R b : Nat} {w w1 w2 : World} (h : AB R b w w1) (k : AB R b w1 w2) : AB R b w w2 := Af.trans h (k.mono h.size)
theorem AB.size {R b : Nat} {w w1 : World} (h : AB R b w w1) : w.heap.size <= w1.heap.size := Af.size h
theorem AB.below {R b : Nat} {w w1 w2 : World} (h : AB R b w w1) (hb : Below w1.heap.size w1 w2) : AB R b w w2 := h.trans (Af.of_below hb)
theorem AB.of_below {R b : Nat} {w w1 : World} (hb : Below w.heap.size w w1) : AB R b w w1 := Af.of_below hb
theorem AB.alloc {R b : Nat} {w w1 : World} (h : AB R b w w1) (o : Obj) : AB R b w (w1.alloc o) := h.trans (Af.alloc _ _)
theorem AB.set {R b : Nat} {w w1 : World} (h : AB R b w w1) {k : Nat} (hk : k = R \/ k = b) (o : Nat) (v : Value) : AB R b w (w1.setCell ⟨k, o, none⟩ v) := h.trans (Af.setCell _ _ _ hk)
theorem AB.put {R b : Nat} {w w1 : World} (h : AB R b w w1) {a : Addr} (ha : w.heap.size <= a.block) (v : Value) : AB R b w (w1.setCell a v) :=
 ⟨h.os, h.tape, h.output, by simpa [World.setCell] using Af.size h, fun k o hk hc _ => (Bh w1 a v k (fun e => by have := (Gl hk); omega)).trans (h.block k o hk hc (.inl (Gl hk))), fun k c e fz hk => by
  obtain ⟨c', fz', h2⟩ := h.kinds k c e fz hk
  exact ⟨c', fz', (Bh w1 a v k (fun e => by have := (Gl hk); omega)).trans h2⟩⟩
theorem AB.heap {R b : Nat} {w w1 : World} (h : AB R b w w1) {k : Nat} {o : Obj} (hk : w.heap[k]? = some o) (h1 : k ≠ R) (h2 : k ≠ b) : w1.heap[k]? = some o := h.block k o hk (fun e => e.elim h1 h2) (.inl (Gl hk))
theorem JE.tabs {b : Nat} {w : World} (h : JE b w) : Bz w /\ Cb w := by obtain ⟨w0, h1, h2, _, h3⟩ := h; exact ⟨h1.below h3, h2.below h3⟩
theorem JE.mod {R b : Nat} {w w' : World} (h : JE b w) (hbR : b < R) (hm : AB R b w w') : JE b w' := by
 obtain ⟨w0, h1, h2, h3, h4⟩ := h
 exact ⟨w0, h1, h2, h3, Af.below hm h4 (fun k hk => by rcases hk with rfl | rfl <;> omega) h4.size Nr⟩
def DF (w : World) (R b : Nat) (l : List AV) (v : Value) : Prop := ∃ A c, v = .slice A l.length c /\ l.length <= c /\ AO w v l /\ Gx (fun k => k < R /\ k ≠ b) v
def Eg (w : World) (R b : Nat) (A : Option Addr) : Nat -> List En -> Prop
 | _, [] => True
 | i, x :: r => (∃ (o : Nat) (v : Value), A = some ⟨b, o, none⟩ /\ DF w R b x.l v /\ w.cell? ⟨b, o + i * 3, none⟩ = some (.int .i64 x.no) /\ w.cell? ⟨b, o + i * 3 + 1, none⟩ = some (.int .i64 x.col) /\ w.cell? ⟨b, o + i * 3 + 2, none⟩ = some v ∧
   w.frozen? ⟨b, o + i * 3, none⟩ = false /\ w.frozen? ⟨b, o + i * 3 + 1, none⟩ = false /\ w.frozen? ⟨b, o + i * 3 + 2, none⟩ = false) /\ Eg w R b A (i + 1) r
structure CE (w : World) (R b : Nat) (es : List En) : Prop where
 lt : b < R
 tb : JE b w
 rf : ∃ A c, es.length <= c /\ w.heap[R]? = some (.cells #[.slice A es.length c] 59) /\ Eg w R b A 0 es
theorem DF.below {w w' : World} {R b : Nat} {l : List AV} {v : Value} (h : DF w R b l v) (hb : Below (R + 1) w w') : DF w' R b l v := by
 obtain ⟨A, c, hv, hc, ht, hf⟩ := h
 refine ⟨A, c, hv, hc, ?_, hf⟩
 obtain ⟨A', c', hv', ht⟩ := ht
 refine ⟨A', c', hv', fun k hk => ?_⟩
 obtain ⟨bb, o, ha, hlt, h0, h1, h2⟩ := ht k hk
 have hbb : bb < R + 1 := by have := (hf bb o _ c' (by rw [hv', ha]) (by omega)).1; omega
 exact ⟨bb, o, ha, Nat.lt_of_lt_of_le hlt hb.size, (hb.cell (p := ⟨bb, _, none⟩) hbb).trans h0, (hb.cell (p := ⟨bb, _, none⟩) hbb).trans h1, (hb.cell (p := ⟨bb, _, none⟩) hbb).trans h2⟩
theorem Eg.below {w w' : World} {R b : Nat} (hlt : b < R) (hb : Below (R + 1) w w') {A : Option Addr} : ∀ (i : Nat) (es : List En), Eg w R b A i es -> Eg w' R b A i es
 | _, [], _ => trivial
 | i, x :: r, h => by
  obtain ⟨⟨o, v, ha, he, h0, h1, h2, f0, f1, f2⟩, hr⟩ := h
  have hb1 : b < R + 1 := by omega
  exact ⟨⟨o, v, ha, he.below hb, (hb.cell (p := ⟨b, _, none⟩) hb1).trans h0, (hb.cell (p := ⟨b, _, none⟩) hb1).trans h1, (hb.cell (p := ⟨b, _, none⟩) hb1).trans h2,
   (hb.frozen (p := ⟨b, _, none⟩) hb1).trans f0, (hb.frozen (p := ⟨b, _, none⟩) hb1).trans f1, (hb.frozen (p := ⟨b, _, none⟩) hb1).trans f2⟩, Eg.below hlt hb (i + 1) r hr⟩
theorem JE.below {R b : Nat} {w w' : World} (hlt : b < R) (h : JE b w) (hb : Below (R + 1) w w') : JE b w' := by
 obtain ⟨w0, h1, h2, h3, h4⟩ := h
 exact ⟨w0, h1, h2, h3, h4.trans (hb.mono (by omega))⟩
theorem CE.belowR {w w' : World} {R b : Nat} {es : List En} (h : CE w R b es) (hb : Below (R + 1) w w') : CE w' R b es := by
 obtain ⟨A, c, h1, h2, h3⟩ := h.rf
 exact ⟨h.lt, h.tb.below h.lt hb, A, c, h1, (hb.block R (Nat.lt_succ_self R)).trans h2, h3.below h.lt hb⟩
theorem CE.rlt {w : World} {R b : Nat} {es : List En} (h : CE w R b es) : R < w.heap.size := by
 obtain ⟨A, c, h1, h2, h3⟩ := h.rf
 exact (Gl h2)
theorem CE.below {w w' : World} {R b : Nat} {es : List En} (h : CE w R b es) (hb : Below w.heap.size w w') : CE w' R b es := h.belowR (hb.mono h.rlt)
theorem CE.alloc {w : World} {R b : Nat} {es : List En} (h : CE w R b es) (o : Obj) : CE (w.alloc o) R b es := h.below ((Bq _ w).alloc Nr o)
theorem CE.put {w : World} {R b : Nat} {es : List En} (h : CE w R b es) {a : Addr} (ha : R < a.block) (v : Value) : CE (w.setCell a v) R b es := h.belowR ((Bq _ w).setCell ha v)
structure Wh (w : World) (R b : Nat) (x : En) (o n c : Nat) (A : Option Addr) (ca : Nat) : Prop where
 hr : w.heap[R]? = some (.cells #[.slice (some ⟨b, o, none⟩) n c] 59)
 en : DF w R b x.l (.slice A x.l.length ca)
 c0 : w.cell? ⟨b, o, none⟩ = some (.int .i64 x.no)
 c1 : w.cell? ⟨b, o + 1, none⟩ = some (.int .i64 x.col)
 c2 : w.cell? ⟨b, o + 2, none⟩ = some (.slice A x.l.length ca)
 f0 : w.frozen? ⟨b, o, none⟩ = false
 f1 : w.frozen? ⟨b, o + 1, none⟩ = false
 f2 : w.frozen? ⟨b, o + 2, none⟩ = false
 nc : n <= c
theorem CE.head {w : World} {R b : Nat} {x : En} {r : List En} (h : CE w R b (x :: r)) : ∃ o c A ca, Wh w R b x o (r.length + 1) c A ca := by
 obtain ⟨A, c, h1, h2, ⟨o, v, rfl, he, h3, h4, h5, f0, f1, f2⟩, _⟩ := h.rf
 obtain ⟨A', ca, rfl, _⟩ := id he
 simp only [Nat.zero_mul, Nat.add_zero] at h3 h4 h5 f0 f1 f2
 exact ⟨o, c, A', ca, h2, he, h3, h4, h5, f0, f1, f2, h1⟩
theorem Oj {w : World} {b : Nat} {t : TypeId} {v0 : Value} (h : w.heap[b]? = some (.cells #[v0] t)) : w.cell? ⟨b, 0, none⟩ = some v0 /\ w.frozen? ⟨b, 0, none⟩ = false := by
 refine ⟨?_, ?_⟩
 ·rw [cell_of_row w b 0 _ t (0, 0) h]; rfl
 ·unfold World.frozen?; rw [h]; rfl
theorem Ie {R b : Nat} {w w1 : World} {N : Nat} (h : AB R b w w1) (hN : w.heap.size <= N) (v0 v1 v2 v3 v4 v5 v6 : Value) (Z : World)
  (hZ : Z = (((((((w1.setCell ⟨N, 0, none⟩ v0).setCell ⟨N, 1, none⟩ v1).setCell ⟨N, 2, none⟩ v2).setCell ⟨N, 3, none⟩ v3).setCell ⟨N, 4, none⟩ v4).setCell ⟨N, 5, none⟩ v5).setCell ⟨N, 6, none⟩ v6)) : AB R b w Z := by
 subst hZ
 exact ((((((h.put (a := ⟨N, 0, none⟩) hN v0).put (a := ⟨N, 1, none⟩) hN v1).put (a := ⟨N, 2, none⟩) hN v2).put (a := ⟨N, 3, none⟩) hN v3).put (a := ⟨N, 4, none⟩) hN v4).put (a := ⟨N, 5, none⟩) hN v5).put (a := ⟨N, 6, none⟩) hN v6
theorem Ej (R b : Nat) (w : World) (h : CE w R b []) :
  Calls Tryz.prog 40 #[.pointer (some ⟨R, 0, none⟩)] w fun e w' => e = .returned (.tuple #[.agg #[.int .i64 0, .int .i64 0, .slice none 0 0], .bool false]) /\ Below w.heap.size w w' := by
 obtain ⟨A, c, h1, h2, _⟩ := h.rf
 obtain ⟨r0, _⟩ := Oj h2
 simp only [List.length_nil] at r0
 have hlt := h.rlt
 go_enter Tryz.func40, Tryz.ntmps40
 go_wp2
 exact bodyPost_ret (v := .tuple #[.agg #[.int .i64 0, .int .i64 0, .slice none 0 0], .bool false]) (by simp [results, Tryz.results40, go_sem]) rfl ⟨rfl, (Bq _ w).alloc Nr _⟩
theorem Da (R b : Nat) (x : En) (o n c : Nat) (A : Option Addr) (ca : Nat) (w : World) (h : Wh w R b x o n c A ca) (hn : 0 < n) :
  Calls Tryz.prog 40 #[.pointer (some ⟨R, 0, none⟩)] w fun e w' => e = .returned (.tuple #[.agg #[.int .i64 x.no, .int .i64 x.col, .slice A x.l.length ca], .bool true]) /\ Below w.heap.size w w' := by
 obtain ⟨r0, _⟩ := Oj h.hr
 have hlt := (Gl h.hr)
 have hblt := AS h.c0
 obtain ⟨c0, c1, c2⟩ := Ai h.c0 (Ai h.c1 h.c2)
 obtain ⟨no, col, l⟩ := x
 dsimp only at c0 c1 c2 |-
 obtain ⟨L, hL⟩ : ∃ L, l.length = L := ⟨_, rfl⟩
 rw [hL] at c2 |-
 have hn0 : ((n : Int) == 0) = false := by rw [beq_eq_false_iff_ne]; omega
 have hn1 : (0 : Int) < (n : Int) := by omega
 clear h hL hn
 go_enter Tryz.func40, Tryz.ntmps40
 go_wp2
 exact bodyPost_ret (v := .tuple #[.agg #[.int .i64 no, .int .i64 col, .slice A L ca], .bool true]) (by simp [results, Tryz.results40, go_sem]) rfl ⟨rfl, (Bq _ w).alloc Nr _⟩
theorem Df (no col : Int) (A : Option Addr) (l c : Nat) (er : Int) (w : World) :
  Calls Tryz.prog 42 #[.agg #[.int .i64 no, .int .i64 col, .slice A l c], .int .i64 er] w fun e w' => e = .returned (Ci no er) /\ Below w.heap.size w w' := by
 have hB := (Bq _ w).alloc Nr (.cells #[.int .i64 no, .int .i64 col, .slice A l c] 107)
 have HB := hid hB
 clear hB
 unfold Ci
 go_enter Tryz.func42, Tryz.ntmps42
 go_wp2
 go_ret
 exact ⟨rfl, HB.out⟩
theorem Eg.tail {w : World} {R b o : Nat} : ∀ (i : Nat) (es : List En), Eg w R b (some ⟨b, o, none⟩) (i + 1) es -> Eg w R b (some ⟨b, o + 3, none⟩) i es
 | _, [], _ => trivial
 | i, x :: r, h => by
  obtain ⟨⟨o', v, ha, he, h0, h1, h2, f0, f1, f2⟩, hr⟩ := h
  injection ha with ha
  injection ha with _ ha
  subst ha
  have e : o + (i + 1) * 3 = o + 3 + i * 3 := by omega
  rw [e] at h0 h1 h2 f0 f1 f2
  exact ⟨⟨o + 3, v, rfl, he, h0, h1, h2, f0, f1, f2⟩, Eg.tail (i + 1) r hr⟩
theorem DF.far {w w' : World} {R b : Nat} {l : List AV} {v : Value} (he : DF w R b l v) (hsz : w.heap.size <= w'.heap.size) (hc : ∀ k j, k < R -> k ≠ b -> w'.cell? ⟨k, j, none⟩ = w.cell? ⟨k, j, none⟩) : DF w' R b l v := by
 obtain ⟨A, c, hv, hcap, ht, hfr⟩ := he
 refine ⟨A, c, hv, hcap, ?_, hfr⟩
 obtain ⟨A', c', hv', ht⟩ := ht
 refine ⟨A', c', hv', fun k hk => ?_⟩
 obtain ⟨bb, o2, ha, hlt2, g0, g1, g2⟩ := ht k hk
 have hbb := hfr bb o2 _ c' (by rw [hv', ha]) (by omega)
 exact ⟨bb, o2, ha, Nat.lt_of_lt_of_le hlt2 hsz, (hc bb _ hbb.1 hbb.2).trans g0, (hc bb _ hbb.1 hbb.2).trans g1, (hc bb _ hbb.1 hbb.2).trans g2⟩
theorem Eg.turnR {w w' : World} {R b : Nat} (hlt : b < R) (hb : Below R w w') {A : Option Addr} : ∀ (i : Nat) (es : List En), Eg w R b A i es -> Eg w' R b A i es
 | _, [], _ => trivial
 | i, x :: r, h => by
  obtain ⟨⟨o, v, ha, he, h0, h1, h2, f0, f1, f2⟩, hr⟩ := h
  have he' : DF w' R b x.l v := he.far hb.size (fun k j h1 h2 => hb.cell (p := ⟨k, j, none⟩) h1)
  exact ⟨⟨o, v, ha, he', (hb.cell (p := ⟨b, _, none⟩) hlt).trans h0, (hb.cell (p := ⟨b, _, none⟩) hlt).trans h1, (hb.cell (p := ⟨b, _, none⟩) hlt).trans h2,
   (hb.frozen (p := ⟨b, _, none⟩) hlt).trans f0, (hb.frozen (p := ⟨b, _, none⟩) hlt).trans f1, (hb.frozen (p := ⟨b, _, none⟩) hlt).trans f2⟩, Eg.turnR hlt hb (i + 1) r hr⟩
theorem GM (R b : Nat) (x : En) (r : List En) (w : World) (h : CE w R b (x :: r)) :
  Calls Tryz.prog 71 #[.pointer (some ⟨R, 0, none⟩)] w fun e w' => (∃ v, e = .returned v) /\ CE w' R b r /\ AB R b w w' := by
 obtain ⟨A, c, h1, h2, ⟨o, v, rfl, he, _⟩, hrow⟩ := h.rf
 obtain ⟨r0, f0⟩ := Oj h2
 have hlt := h.rlt
 have hP := hid (show ∀ o' c', (r ≠ [] -> o' = o + 3) -> r.length <= c' -> CE (w.setCell ⟨R, 0, none⟩ (.slice (some ⟨b, o', none⟩) r.length c')) R b r /\ AB R b w (w.setCell ⟨R, 0, none⟩ (.slice (some ⟨b, o', none⟩) r.length c')) from fun o' c' ho hc' => by
  have hb : Below R w (w.setCell ⟨R, 0, none⟩ (.slice (some ⟨b, o', none⟩) r.length c')) := (Bq _ w).setCell (p := ⟨R, 0, none⟩) Nr _
  refine ⟨⟨h.lt, ?_, some ⟨b, o', none⟩, c', hc', heap_setCell_same w R 0 _ _ _ h2, ?_⟩, (AB.refl R b w).set (.inl rfl) 0 _⟩
  ·obtain ⟨w0, t1, t2, t3, t4⟩ := h.tb
   exact ⟨w0, t1, t2, t3, t4.trans (hb.mono (by have := h.lt; omega))⟩
  ·cases r with
   | nil => trivial
   | cons y r' => obtain rfl := ho (by simp); exact Eg.tail 0 _ (hrow.turnR h.lt hb))
 rw [List.length_cons] at r0 h1
 have hrn : r.length = 0 -> r = [] := List.eq_nil_of_length_eq_zero
 obtain ⟨n, hn⟩ : ∃ n, r.length + 1 = n := ⟨_, rfl⟩
 have hrl : r.length = n - 1 := by omega
 rw [hn] at r0 h1
 rw [hrl] at hP hrn
 have hn1 : (1 : Int) <= (n : Int) := by omega
 have hc1 : (n : Int) <= (c : Int) := by omega
 have HR := hid hrn
 clear h h2 he hrow hn hrl hrn
 by_cases hcc : c = 1
 ·subst hcc
  have hn0 : n = 1 := by omega
  subst hn0
  go_enter Tryz.func71, Tryz.ntmps71
  go_wp2
  go_end0
  exact ⟨⟨_, rfl⟩, hP.out o 0 (fun h => absurd (by first | exact HR.out rfl | exact HR.out trivial) h) Nr⟩
 ·go_enter Tryz.func71, Tryz.ntmps71
  go_wp2
  go_end0
  exact ⟨⟨_, rfl⟩, hP.out (o + 3) (c - 1) (fun _ => rfl) (by omega)⟩
theorem Eg.far {w w' : World} {R b o : Nat} (hlt : b < R) (hsz : w.heap.size <= w'.heap.size) (hc : ∀ k j, k < R -> (k ≠ b \/ o + 3 <= j) -> w'.cell? ⟨k, j, none⟩ = w.cell? ⟨k, j, none⟩) (hf : ∀ j, o + 3 <= j -> w'.frozen? ⟨b, j, none⟩ = w.frozen? ⟨b, j, none⟩) :
  ∀ (i : Nat) (es : List En), Eg w R b (some ⟨b, o, none⟩) (i + 1) es -> Eg w' R b (some ⟨b, o, none⟩) (i + 1) es
 | _, [], _ => trivial
 | i, x :: r, h => by
  obtain ⟨⟨o', v, ha, he, h0, h1, h2, f0, f1, f2⟩, hr⟩ := h
  injection ha with ha
  injection ha with _ ha
  subst ha
  have he' : DF w' R b x.l v := he.far hsz (fun k j h1 h2 => hc k j h1 (.inl h2))
  exact ⟨⟨o, v, rfl, he', (hc b _ hlt (.inr (by omega))).trans h0, (hc b _ hlt (.inr (by omega))).trans h1, (hc b _ hlt (.inr (by omega))).trans h2,
   (hf _ (by omega)).trans f0, (hf _ (by omega)).trans f1, (hf _ (by omega)).trans f2⟩, Eg.far hlt hsz hc hf (i + 1) r hr⟩
theorem CE.store {w : World} {R b : Nat} {x y : En} {r : List En} {o c : Nat} {A A' : Option Addr} {ca ca' : Nat} (h : CE w R b (x :: r)) (hd : Wh w R b x o (r.length + 1) c A ca) (hy : DF w R b y.l (.slice A' y.l.length ca')) (Z : World)
  (hZ : Z = ((w.setCell ⟨b, o, none⟩ (.int .i64 y.no)).setCell ⟨b, o + 1, none⟩ (.int .i64 y.col)).setCell ⟨b, o + 2, none⟩ (.slice A' y.l.length ca')) : CE Z R b (y :: r) /\ AB R b w Z := by
 subst hZ
 have hm : AB R b w (((w.setCell ⟨b, o, none⟩ (.int .i64 y.no)).setCell ⟨b, o + 1, none⟩ (.int .i64 y.col)).setCell ⟨b, o + 2, none⟩ (.slice A' y.l.length ca')) :=
  (((AB.refl R b w).set (.inr rfl) o _).set (.inr rfl) (o + 1) _).set (.inr rfl) (o + 2) _
 refine ⟨⟨h.lt, h.tb.mod h.lt hm, ?_⟩, hm⟩
 obtain ⟨A0, c0, h1, h2, ⟨o', v, ha, he, g0, g1, g2, f0, f1, f2⟩, hrow⟩ := h.rf
 have hRb : R ≠ b := by have := h.lt; omega
 have hother : ∀ k, k ≠ b -> (((w.setCell ⟨b, o, none⟩ (.int .i64 y.no)).setCell ⟨b, o + 1, none⟩ (.int .i64 y.col)).setCell ⟨b, o + 2, none⟩ (.slice A' y.l.length ca')).heap[k]? = w.heap[k]? := fun k hk =>
  (Bh _ ⟨b, o + 2, none⟩ _ k hk).trans ((Bh _ ⟨b, o + 1, none⟩ _ k hk).trans (Bh w ⟨b, o, none⟩ _ k hk))
 have e0 := h2.symm.trans hd.hr
 injection e0 with e0
 simp at e0
 obtain ⟨e1, e2⟩ := e0
 subst e1 e2
 injection ha with ha
 injection ha with _ ha
 subst ha
 simp only [Nat.zero_mul, Nat.add_zero] at g0 g1 g2 f0 f1 f2
 have hcf : ∀ k j, k < R -> (k ≠ b \/ o + 3 <= j) -> (((w.setCell ⟨b, o, none⟩ (.int .i64 y.no)).setCell ⟨b, o + 1, none⟩ (.int .i64 y.col)).setCell ⟨b, o + 2, none⟩ (.slice A' y.l.length ca')).cell? ⟨k, j, none⟩ = w.cell? ⟨k, j, none⟩ := fun k j _ hkj => by
  have hne : ∀ i, i < 3 -> (⟨b, o + i, none⟩ : Addr) ≠ ⟨k, j, none⟩ := fun i hi e => by
   injection e with e1 e2
   rcases hkj with h | h
   ·exact h e1.symm
   ·omega
  rw [World.cell?_setCell_other _ _ _ _ (hne 2 (by omega)), World.cell?_setCell_other _ _ _ _ (hne 1 (by omega)), World.cell?_setCell_other _ _ _ _ (show (⟨b, o, none⟩ : Addr) ≠ ⟨k, j, none⟩ from hne 0 (by omega))]
 have hff : ∀ j, (((w.setCell ⟨b, o, none⟩ (.int .i64 y.no)).setCell ⟨b, o + 1, none⟩ (.int .i64 y.col)).setCell ⟨b, o + 2, none⟩ (.slice A' y.l.length ca')).frozen? ⟨b, j, none⟩ = w.frozen? ⟨b, j, none⟩ := fun j => by
  rw [World.frozen?_setCell, World.frozen?_setCell, World.frozen?_setCell]
 refine ⟨some ⟨b, o, none⟩, c0, h1, (hother R hRb).trans h2, ⟨o, _, rfl, hy.far hm.size (fun k j h1 h2 => hcf k j h1 (.inl h2)), ?_, ?_, ?_, ?_, ?_, ?_⟩, Eg.far h.lt hm.size hcf (fun j _ => hff j) 0 r hrow⟩ <;> simp only [Nat.zero_mul, Nat.add_zero]
 ·rw [World.cell?_setCell_other _ _ _ _ (by simp), World.cell?_setCell_other _ _ _ _ (by simp), World.cell?_setCell_same _ _ _ g0]
 ·rw [World.cell?_setCell_other _ _ _ _ (by simp)]
  exact World.cell?_setCell_same _ _ _ ((World.cell?_setCell_other _ _ _ _ (by simp)).trans g1)
 ·exact World.cell?_setCell_same _ _ _ ((World.cell?_setCell_other _ _ _ _ (by simp)).trans ((World.cell?_setCell_other _ _ _ _ (by simp)).trans g2))
 ·exact (hff _).trans f0
 ·exact (hff _).trans f1
 ·exact (hff _).trans f2
theorem VA {Z : World} {N : Nat} {v0 v1 v2 : Value} {ty : TypeId} (hN : Z.heap.size = N) : (Z.alloc (.cells #[v0, v1, v2] ty)).drew.cell? ⟨N, 0, none⟩ = some v0 /\ (Z.alloc (.cells #[v0, v1, v2] ty)).drew.cell? ⟨N, 1, none⟩ = some v1 /\ (Z.alloc (.cells #[v0, v1, v2] ty)).drew.cell? ⟨N, 2, none⟩ = some v2 := by
 subst hN
 obtain ⟨c0, c1, c2, _⟩ := Az (Wn Z (.cells #[v0, v1, v2] ty))
 exact ⟨c0, c1, c2⟩
theorem T9 (R b : Nat) (x y : En) (r : List En) (A' : Option Addr) (ca' : Nat) (w : World) (h : CE w R b (x :: r)) (hy : DF w R b y.l (.slice A' y.l.length ca')) :
  Calls Tryz.prog 135 #[.pointer (some ⟨R, 0, none⟩), .agg #[.int .i64 y.no, .int .i64 y.col, .slice A' y.l.length ca']] w fun e w' => (∃ v, e = .returned v) /\ CE w' R b (y :: r) /\ AB R b w w' := by
 obtain ⟨o, c, A, ca, hd⟩ := h.head
 have hP := h.store hd hy _ rfl
 have hblt := AS hd.c0
 have hlt := h.rlt
 obtain ⟨r0, _⟩ := Oj hd.hr
 obtain ⟨f0, f1, f2⟩ := Ai hd.f0 (Ai hd.f1 hd.f2)
 obtain ⟨c0, c1, c2⟩ := Ai hd.c0 (Ai hd.c1 hd.c2)
 obtain ⟨no, col, l⟩ := y
 dsimp only at hP c0 c1 c2 |-
 have hn1 : (0 : Int) < ((r.length + 1 : Nat) : Int) := by omega
 obtain ⟨n, hn⟩ : ∃ n, r.length + 1 = n := ⟨_, rfl⟩
 rw [hn] at r0 hn1
 have hn2 : 0 < n := by omega
 have HP := hid hP
 have hRb : b ≠ R := by have := h.lt; omega
 have hS0 := Ai (show (w.alloc (.cells #[.int .i64 no, .int .i64 col, .slice A' l.length ca'] 107)).drew.cell? ⟨R, 0, none⟩ = some (.slice (some ⟨b, o, none⟩) n c) from (World.cell?_alloc_lt _ _ _ hlt).trans r0) (VA (Z := w) (v0 := .int .i64 no) (v1 := .int .i64 col) (v2 := .slice A' l.length ca') (ty := 107) rfl)
 have hSZ := Ai (show ((((w.setCell ⟨b, o, none⟩ (.int .i64 no)).setCell ⟨b, o + 1, none⟩ (.int .i64 col)).setCell ⟨b, o + 2, none⟩ (.slice A' l.length ca')).alloc (.cells #[.int .i64 no, .int .i64 col, .slice A' l.length ca'] 107)).drew.cell? ⟨R, 0, none⟩ = some (.slice (some ⟨b, o, none⟩) n c) from
   (World.cell?_alloc_lt _ _ _ (by simpa [World.size_setCell] using hlt)).trans ((World.cell?_setCell_other _ _ _ _ (by simp [hRb])).trans ((World.cell?_setCell_other _ _ _ _ (by simp [hRb])).trans ((World.cell?_setCell_other _ _ _ _ (by simp [hRb])).trans r0))))
  (VA (Z := ((w.setCell ⟨b, o, none⟩ (.int .i64 no)).setCell ⟨b, o + 1, none⟩ (.int .i64 col)).setCell ⟨b, o + 2, none⟩ (.slice A' l.length ca')) (N := w.heap.size) (v0 := .int .i64 no) (v1 := .int .i64 col) (v2 := .slice A' l.length ca') (ty := 107) (by simp [World.size_setCell]))
 clear hn hd h hy hP
 go_enter Tryz.func135, Tryz.ntmps135
 go_wp2
 go_region_held3 (fun w' => w'.cell? ⟨R, 0, none⟩ = some (.slice (some ⟨b, o, none⟩) n c) /\ w'.cell? ⟨w.heap.size, 0, none⟩ = some (.int .i64 no) /\ w'.cell? ⟨w.heap.size, 1, none⟩ = some (.int .i64 col) /\ w'.cell? ⟨w.heap.size, 2, none⟩ = some (.slice A' l.length ca'))
  (first | exact hS0 | exact hSZ | go_keep) (first | fail)
 try go_end0
 have hq := ((Bq _ (((w.setCell ⟨b, o, none⟩ (.int .i64 no)).setCell ⟨b, o + 1, none⟩ (.int .i64 col)).setCell ⟨b, o + 2, none⟩ (.slice A' l.length ca'))).alloc Nr (.cells #[.int .i64 no, .int .i64 col, .slice A' l.length ca'] 107)).drew
 exact ⟨⟨_, rfl⟩, HP.out.1.below hq, HP.out.2.below hq⟩
def Vz (a b : World) : Prop := a = b
def UR (p L : Nat) (ks : List Int) (c : Int) (k : Nat) : Prop := (decide (p < L) && (ks.take k).contains c) = false
theorem Ts (no col : Int) (A : Option Addr) (ca : Nat) (l : List AV) (p : Nat) (ks : List Int) (b cap : Nat) (w : World) (hv : AO w (.slice A l.length ca) l) (hp : p <= 10) (hks : ks.length <= 10)
  (hc : ∀ i, i < ks.length -> w.cell? ⟨b, i, none⟩ = some (.int .i64 (ks.getD i 0))) :
  Calls Tryz.prog 109 #[.agg #[.int .i64 no, .int .i64 col, .slice A l.length ca], .int .i64 p, .slice (some ⟨b, 0, none⟩) ks.length cap] w fun e w' => e = .returned (.bool (DT l p ks)) /\ Below w.heap.size w w' := by
 obtain ⟨c, hcc⟩ : ∃ c, (l.getD p ⟨0, [], 0⟩).kind = c := ⟨_, rfl⟩
 have hK : DT l p ks = (decide (p < l.length) && ks.contains c) := by unfold DT; rw [hcc]
 have hb1 : Below w.heap.size w (w.alloc (.cells #[.int .i64 no, .int .i64 col, .slice A l.length ca] 107)) := (Bq _ w).alloc Nr _
 have hA : p < l.length -> ∃ a o, A = some ⟨a, o, none⟩ /\ (w.alloc (.cells #[.int .i64 no, .int .i64 col, .slice A l.length ca] 107)).cell? ⟨a, o + p * 3, none⟩ = some (.int .i64 c) := fun h => by
  obtain ⟨A', c', e, ht⟩ := hv
  obtain ⟨a, o, ha, _, h0, _⟩ := ht p h
  injection e with e1
  rw [hcc] at h0
  exact ⟨a, o, e1.trans ha, Ab h0 hb1⟩
 replace hc : ∀ i, i < ks.length -> (w.alloc (.cells #[.int .i64 no, .int .i64 col, .slice A l.length ca] 107)).cell? ⟨b, i, none⟩ = some (.int .i64 (ks.getD i 0)) := fun i hi => Ab (hc i hi) hb1
 obtain ⟨X0, X1, X2, _⟩ := Az (Wn w (.cells #[.int .i64 no, .int .i64 col, .slice A l.length ca] 107))
 obtain ⟨w1, hw1⟩ : ∃ w1, w.alloc (.cells #[.int .i64 no, .int .i64 col, .slice A l.length ca] 107) = w1 := ⟨_, rfl⟩
 rw [hK]
 obtain ⟨rr, hrr⟩ : ∃ r, (decide (p < l.length) && ks.contains c) = r := ⟨_, rfl⟩
 rw [hrr]
 obtain ⟨L, hL⟩ : ∃ L, l.length = L := ⟨_, rfl⟩
 obtain ⟨n, hn⟩ : ∃ n, ks.length = n := ⟨_, rfl⟩
 rw [hL] at hA hw1 X0 X1 X2 hb1 hc hrr |-
 have HRR := hid hrr
 rw [hn] at hc |-
 rw [hw1] at hA hc X0 X1 X2 hb1
 have hn10 : n <= 10 := by rw [<- hn]; exact hks
 have HN := hid hn
 have HB := hid hb1
 have HC := hid hc
 clear hv hK hcc hL hn hks hb1 hc hrr
 go_enter Tryz.func109, Tryz.ntmps109
 go_wp2
 go_loopw [11] (fun i wr => Vz wr w1 /\ ∃ k : Nat, k <= n /\ i = .int .i64 k /\ UR p L ks c k) (fun i _ => n - (intOf i).toNat)
 case atStart => exact ⟨rfl, 0, by omega, rfl, by unfold UR; simp⟩
 case round =>
  obtain ⟨HW, k, hk, rfl, HI⟩ := hrel
  obtain rfl : wr = w1 := HW
  by_cases hlt : k < n
  ·have hki : (k : Int) < (n : Int) := by omega
   have hcell := HC.out k hlt
   obtain ⟨kk, hkk⟩ : ∃ kk, ks.getD k 0 = kk := ⟨_, rfl⟩
   rw [hkk] at hcell
   have hget : ks[k]'(by rw [HN.out]; exact hlt) = kk := by rw [<- hkk]; simp [List.getD, HN.out, hlt]
   have HT := hid (Fh (c := c) (show k < ks.length by rw [HN.out]; exact hlt))
   by_cases hpl : p < L
   ·have hpi : (p : Int) < (L : Int) := by omega
    obtain ⟨a, o, rfl, ha⟩ := hA hpl
    by_cases hck : c = kk
    ·have hcq : (c == kk) = true := by simpa using hck
     have HE := hid (show (decide (p < L) && ks.contains c) = true by
      rw [decide_eq_true hpl, Bool.true_and, hck, <- hget]
      simp)
     clear hck hget hkk
     go_wp2
     go_ret
     exact ⟨by rw [<- HRR.out, HE.out]; rfl, HB.out⟩
    ·have hcq : (c == kk) = false := by rw [beq_eq_false_iff_ne]; exact hck
     have HJ : UR p L ks c (k + 1) := by unfold UR; rw [HT.out, hget, hcq, Bool.or_false]; exact HI
     clear hck hget hkk
     go_wp2
     go_roundw
     case rel => exact ⟨rfl, k + 1, by omega, by go_num, HJ⟩
     case measure => simp [intOf]; omega
   ·have hpi : ¬ (p : Int) < (L : Int) := by omega
    have HJ : UR p L ks c (k + 1) := by unfold UR; rw [decide_eq_false hpl, Bool.false_and]
    clear hget hkk
    go_wp2
    go_roundw
    case rel => exact ⟨rfl, k + 1, by omega, by go_num, HJ⟩
    case measure => simp [intOf]; omega
  ·have hki : ¬ (k : Int) < (n : Int) := by omega
   have HE := hid (show (decide (p < L) && ks.contains c) = false by
    have := HI
    unfold UR at this
    rwa [List.take_of_length_le (by rw [HN.out]; omega)] at this)
   go_wp2
   go_ret
   exact ⟨by rw [<- HRR.out, HE.out]; rfl, HB.out⟩
theorem TW (N : Nat) (no col : Int) (A : Option Addr) (ca : Nat) (l : List AV) (p : Nat) (ks : List Int) (n cap : Nat) (fz : Nat × Nat) (w : World) (hN : w.heap.size = N) (hn : ks.length = n) (hv : AO w (.slice A l.length ca) l) (hp : p <= 10) (hks : n <= 10) :
  Calls Tryz.prog 109 #[.agg #[.int .i64 no, .int .i64 col, .slice A l.length ca], .int .i64 p, .slice (some ⟨N, 0, none⟩) n cap] (w.alloc (.cells (ks.map fun c => Value.int .i64 c).toArray 3 fz)) fun e w' => e = .returned (.bool (DT l p ks)) /\ Below w.heap.size w w' := by
 subst hn hN
 refine (Ts no col A ca l p ks w.heap.size cap _ (hv.alloc _) hp hks (Ij w ks fz)).mono ?_
 rintro e w' ⟨rfl, hb⟩
 exact ⟨rfl, ((Bq _ w).alloc Nr _).trans (hb.mono (by simp))⟩
def L5 : Bg -> Value
 | .dash => .iface 149 (.agg #[])
 | .key => .iface 150 (.agg #[])
 | .name s => .iface 152 (.agg #[.string ⟨s.toArray⟩])
 | .plain => .iface 206 (.agg #[])
theorem QK (l : List AV) (i : Nat) (k : Int) (hk : k ≠ 0) : DT l i [k] = decide (GT l i = k) := by
 unfold DT GT EK
 rcases Nat.lt_or_ge i l.length with h | h
 ·rw [decide_eq_true h, Bool.true_and, Bool.eq_iff_iff]; simp
 ·rw [decide_eq_false (by omega), Bool.false_and, List.getD, List.getElem?_eq_none h]
  exact (decide_eq_false (fun e => hk e.symm)).symm
theorem Vl (l : List AV) (i : Nat) (k j : Int) (hk : k ≠ 0) (hj : j ≠ 0) : DT l i [k, j] = decide (GT l i = k \/ GT l i = j) := by
 unfold DT GT EK
 rcases Nat.lt_or_ge i l.length with h | h
 ·rw [decide_eq_true h, Bool.true_and, Bool.eq_iff_iff]; simp
 ·rw [decide_eq_false (by omega), Bool.false_and, List.getD, List.getElem?_eq_none h]
  refine (decide_eq_false (fun e => ?_)).symm
  rcases e with e | e
  ·exact hk e.symm
  ·exact hj e.symm
theorem Ge (no col : Int) (A : Option Addr) (ca : Nat) (l : List AV) (w : World) (hv : AO w (.slice A l.length ca) l) :
  Calls Tryz.prog 69 #[.agg #[.int .i64 no, .int .i64 col, .slice A l.length ca]] w fun e w' => e = .returned (L5 (Bp l)) /\ Below w.heap.size w w' := by
 have hI := fun N p ks n cap fz wx hN hn (hb : Below w.heap.size w wx) hp hks => TW N no col A ca l p ks n cap fz wx hN hn (hv.below hb) hp hks
 have hb1 : Below w.heap.size w (w.alloc (.cells #[.int .i64 no, .int .i64 col, .slice A l.length ca] 107)) := (Bq _ w).alloc Nr _
 have hX := Wn w (.cells #[.int .i64 no, .int .i64 col, .slice A l.length ca] 107)
 obtain ⟨w1, hw1⟩ : ∃ w1, w.alloc (.cells #[.int .i64 no, .int .i64 col, .slice A l.length ca] 107) = w1 := ⟨_, rfl⟩
 rw [hw1] at hX hb1
 have hs1 : w1.heap.size = w.heap.size + 1 := by rw [<- hw1]; simp
 have hname : GT l 0 = 3 -> l.length = 1 -> ∃ a o, A = some ⟨a, o, none⟩ /\ ∀ W, Below w.heap.size w W -> W.cell? ⟨a, o + 1, none⟩ = some (.string ⟨(l.getD 0 EK).str.toArray⟩) := fun h3 h1 => by
  obtain ⟨A', c', e, ht⟩ := hv
  obtain ⟨a, o, ha, _, _, h0, _⟩ := ht 0 (by omega)
  injection e with e1
  simp only [Nat.zero_mul, Nat.add_zero] at h0
  exact ⟨a, o, e1.trans ha, fun W hW => Ab h0 hW⟩
 have hB : Bp l = if GT l 0 = 5 then .dash else if (GT l 0 = 1 \/ GT l 0 = 2) /\ GT l 1 = 6 then .key else if GT l 0 = 3 /\ l.length = 1 then .name (l.getD 0 EK).str else .plain := rfl
 obtain ⟨k0, hk0⟩ : ∃ k, GT l 0 = k := ⟨_, rfl⟩
 obtain ⟨k1, hk1⟩ : ∃ k, GT l 1 = k := ⟨_, rfl⟩
 have e5 := QK l 0 5 (by decide)
 have e12 := Vl l 0 1 2 (by decide) (by decide)
 have e6 := QK l 1 6 (by decide)
 have e3 := QK l 0 3 (by decide)
 rw [hk0] at e5 e12 e3 hB hname
 rw [hk1] at e6 hB
 obtain ⟨L, hL⟩ : ∃ L, l.length = L := ⟨_, rfl⟩
 rw [hL] at hI hX hw1 hname hB |-
 obtain ⟨rr, hrr⟩ : ∃ r, Bp l = r := ⟨_, rfl⟩
 rw [hrr] at hB |-
 have HB := hid hB
 have HX1 := hid (Ai hX hb1)
 clear hB hk0 hk1 hL hrr hv hX hb1
 by_cases h5 : k0 = 5
 ·obtain rfl : rr = .dash := by rw [HB.out, if_pos h5]
  rw [decide_eq_true h5] at e5
  clear h5 e12 e6 e3 hname HB
  obtain ⟨x0, x1, x2, _⟩ := Az HX1.out.1
  unfold L5
  go_enter Tryz.func69, Tryz.ntmps69
  go_wp2_with fail
  refine (hI _ 0 [5] 1 _ _ w1 hs1 rfl HX1.out.2 (by decide) (by decide)).mono ?_
  rw [e5]
  rintro e w2 ⟨rfl, hb⟩
  have HX2 := hid (Ai (Aa HX1.out.1 hb) (HX1.out.2.trans (hb.mono HX1.out.2.size)))
  clear hb x0 x1 x2
  obtain ⟨x0, x1, x2, _⟩ := Az HX2.out.1
  go_wp2
  go_ret
  exact ⟨rfl, HX2.out.2⟩
 rw [decide_eq_false h5] at e5
 by_cases h12 : k0 = 1 \/ k0 = 2
 ·rw [decide_eq_true h12] at e12
  by_cases h6 : k1 = 6
  ·obtain rfl : rr = .key := by rw [HB.out, if_neg h5, if_pos ⟨h12, h6⟩]
   rw [decide_eq_true h6] at e6
   clear h5 h12 h6 e3 hname HB
   obtain ⟨x0, x1, x2, _⟩ := Az HX1.out.1
   unfold L5
   go_enter Tryz.func69, Tryz.ntmps69
   go_wp2_with fail
   refine (hI _ 0 [5] 1 _ _ w1 hs1 rfl HX1.out.2 (by decide) (by decide)).mono ?_
   rw [e5]
   rintro e w2 ⟨rfl, hb⟩
   have HX2 := hid (Ai (Aa HX1.out.1 hb) (HX1.out.2.trans (hb.mono HX1.out.2.size)))
   clear hb x0 x1 x2
   obtain ⟨x0, x1, x2, _⟩ := Az HX2.out.1
   go_wp2_with fail
   refine (hI _ 0 [1, 2] 2 _ _ w2 rfl rfl HX2.out.2 (by decide) (by decide)).mono ?_
   rw [e12]
   rintro e w3 ⟨rfl, hb⟩
   have HX3 := hid (Ai (Aa HX2.out.1 hb) (HX2.out.2.trans (hb.mono HX2.out.2.size)))
   clear hb x0 x1 x2
   obtain ⟨x0, x1, x2, _⟩ := Az HX3.out.1
   go_wp2_with fail
   refine (hI _ 1 [6] 1 _ _ w3 rfl rfl HX3.out.2 (by decide) (by decide)).mono ?_
   rw [e6]
   rintro e w4 ⟨rfl, hb⟩
   have HX4 := hid (Ai (Aa HX3.out.1 hb) (HX3.out.2.trans (hb.mono HX3.out.2.size)))
   clear hb x0 x1 x2
   obtain ⟨x0, x1, x2, _⟩ := Az HX4.out.1
   go_wp2
   go_ret
   exact ⟨rfl, HX4.out.2⟩
  ·obtain rfl : rr = .plain := by rw [HB.out, if_neg h5, if_neg (fun h => h6 h.2), if_neg (by omega)]
   rw [decide_eq_false h6] at e6
   rw [decide_eq_false (by omega)] at e3
   clear h5 h12 h6 hname HB
   obtain ⟨x0, x1, x2, _⟩ := Az HX1.out.1
   unfold L5
   go_enter Tryz.func69, Tryz.ntmps69
   go_wp2_with fail
   refine (hI _ 0 [5] 1 _ _ w1 hs1 rfl HX1.out.2 (by decide) (by decide)).mono ?_
   rw [e5]
   rintro e w2 ⟨rfl, hb⟩
   have HX2 := hid (Ai (Aa HX1.out.1 hb) (HX1.out.2.trans (hb.mono HX1.out.2.size)))
   clear hb x0 x1 x2
   obtain ⟨x0, x1, x2, _⟩ := Az HX2.out.1
   go_wp2_with fail
   refine (hI _ 0 [1, 2] 2 _ _ w2 rfl rfl HX2.out.2 (by decide) (by decide)).mono ?_
   rw [e12]
   rintro e w3 ⟨rfl, hb⟩
   have HX3 := hid (Ai (Aa HX2.out.1 hb) (HX2.out.2.trans (hb.mono HX2.out.2.size)))
   clear hb x0 x1 x2
   obtain ⟨x0, x1, x2, _⟩ := Az HX3.out.1
   go_wp2_with fail
   refine (hI _ 1 [6] 1 _ _ w3 rfl rfl HX3.out.2 (by decide) (by decide)).mono ?_
   rw [e6]
   rintro e w4 ⟨rfl, hb⟩
   have HX4 := hid (Ai (Aa HX3.out.1 hb) (HX3.out.2.trans (hb.mono HX3.out.2.size)))
   clear hb x0 x1 x2
   obtain ⟨x0, x1, x2, _⟩ := Az HX4.out.1
   go_wp2_with fail
   refine (hI _ 0 [3] 1 _ _ w4 rfl rfl HX4.out.2 (by decide) (by decide)).mono ?_
   rw [e3]
   rintro e w5 ⟨rfl, hb⟩
   have HX5 := hid (Ai (Aa HX4.out.1 hb) (HX4.out.2.trans (hb.mono HX4.out.2.size)))
   clear hb x0 x1 x2
   obtain ⟨x0, x1, x2, _⟩ := Az HX5.out.1
   go_wp2
   go_ret
   exact ⟨rfl, HX5.out.2⟩
 rw [decide_eq_false h12] at e12
 by_cases h3 : k0 = 3
 ·rw [decide_eq_true h3] at e3
  by_cases hl : L = 1
  ·obtain rfl : rr = .name (l.getD 0 EK).str := by rw [HB.out, if_neg h5, if_neg (fun h => h12 h.1), if_pos ⟨h3, hl⟩]
   obtain ⟨a, o, rfl, hcl⟩ := hname h3 hl
   subst hl
   obtain ⟨sn, hsn⟩ : ∃ z, (l.getD 0 EK).str = z := ⟨_, rfl⟩
   rw [hsn] at hcl |-
   have HCL := hid hcl
   clear h5 h12 h3 e6 hname HB hsn hcl
   obtain ⟨x0, x1, x2, _⟩ := Az HX1.out.1
   unfold L5
   go_enter Tryz.func69, Tryz.ntmps69
   go_wp2_with fail
   refine (hI _ 0 [5] 1 _ _ w1 hs1 rfl HX1.out.2 (by decide) (by decide)).mono ?_
   rw [e5]
   rintro e w2 ⟨rfl, hb⟩
   have HX2 := hid (Ai (Aa HX1.out.1 hb) (HX1.out.2.trans (hb.mono HX1.out.2.size)))
   clear hb x0 x1 x2
   obtain ⟨x0, x1, x2, _⟩ := Az HX2.out.1
   go_wp2_with fail
   refine (hI _ 0 [1, 2] 2 _ _ w2 rfl rfl HX2.out.2 (by decide) (by decide)).mono ?_
   rw [e12]
   rintro e w3 ⟨rfl, hb⟩
   have HX3 := hid (Ai (Aa HX2.out.1 hb) (HX2.out.2.trans (hb.mono HX2.out.2.size)))
   clear hb x0 x1 x2
   obtain ⟨x0, x1, x2, _⟩ := Az HX3.out.1
   go_wp2_with fail
   refine (hI _ 0 [3] 1 _ _ w3 rfl rfl HX3.out.2 (by decide) (by decide)).mono ?_
   rw [e3]
   rintro e w4 ⟨rfl, hb⟩
   have HX4 := hid (Ai (Aa HX3.out.1 hb) (HX3.out.2.trans (hb.mono HX3.out.2.size)))
   clear hb x0 x1 x2
   obtain ⟨x0, x1, x2, _⟩ := Az HX4.out.1
   have hcl := HCL.out w4 HX4.out.2
   go_wp2
   go_ret
   exact ⟨rfl, HX4.out.2⟩
  ·obtain rfl : rr = .plain := by rw [HB.out, if_neg h5, if_neg (fun h => h12 h.1), if_neg (fun h => hl h.2)]
   have hli : ((L : Int) == 1) = false := by rw [beq_eq_false_iff_ne]; omega
   clear h5 h12 h3 e6 hname HB
   obtain ⟨x0, x1, x2, _⟩ := Az HX1.out.1
   unfold L5
   go_enter Tryz.func69, Tryz.ntmps69
   go_wp2_with fail
   refine (hI _ 0 [5] 1 _ _ w1 hs1 rfl HX1.out.2 (by decide) (by decide)).mono ?_
   rw [e5]
   rintro e w2 ⟨rfl, hb⟩
   have HX2 := hid (Ai (Aa HX1.out.1 hb) (HX1.out.2.trans (hb.mono HX1.out.2.size)))
   clear hb x0 x1 x2
   obtain ⟨x0, x1, x2, _⟩ := Az HX2.out.1
   go_wp2_with fail
   refine (hI _ 0 [1, 2] 2 _ _ w2 rfl rfl HX2.out.2 (by decide) (by decide)).mono ?_
   rw [e12]
   rintro e w3 ⟨rfl, hb⟩
   have HX3 := hid (Ai (Aa HX2.out.1 hb) (HX2.out.2.trans (hb.mono HX2.out.2.size)))
   clear hb x0 x1 x2
   obtain ⟨x0, x1, x2, _⟩ := Az HX3.out.1
   go_wp2_with fail
   refine (hI _ 0 [3] 1 _ _ w3 rfl rfl HX3.out.2 (by decide) (by decide)).mono ?_
   rw [e3]
   rintro e w4 ⟨rfl, hb⟩
   have HX4 := hid (Ai (Aa HX3.out.1 hb) (HX3.out.2.trans (hb.mono HX3.out.2.size)))
   clear hb x0 x1 x2
   obtain ⟨x0, x1, x2, _⟩ := Az HX4.out.1
   go_wp2
   go_ret
   exact ⟨rfl, HX4.out.2⟩
 ·obtain rfl : rr = .plain := by rw [HB.out, if_neg h5, if_neg (fun h => h12 h.1), if_neg (fun h => h3 h.1)]
  rw [decide_eq_false h3] at e3
  clear h5 h12 h3 e6 hname HB
  obtain ⟨x0, x1, x2, _⟩ := Az HX1.out.1
  unfold L5
  go_enter Tryz.func69, Tryz.ntmps69
  go_wp2_with fail
  refine (hI _ 0 [5] 1 _ _ w1 hs1 rfl HX1.out.2 (by decide) (by decide)).mono ?_
  rw [e5]
  rintro e w2 ⟨rfl, hb⟩
  have HX2 := hid (Ai (Aa HX1.out.1 hb) (HX1.out.2.trans (hb.mono HX1.out.2.size)))
  clear hb x0 x1 x2
  obtain ⟨x0, x1, x2, _⟩ := Az HX2.out.1
  go_wp2_with fail
  refine (hI _ 0 [1, 2] 2 _ _ w2 rfl rfl HX2.out.2 (by decide) (by decide)).mono ?_
  rw [e12]
  rintro e w3 ⟨rfl, hb⟩
  have HX3 := hid (Ai (Aa HX2.out.1 hb) (HX2.out.2.trans (hb.mono HX2.out.2.size)))
  clear hb x0 x1 x2
  obtain ⟨x0, x1, x2, _⟩ := Az HX3.out.1
  go_wp2_with fail
  refine (hI _ 0 [3] 1 _ _ w3 rfl rfl HX3.out.2 (by decide) (by decide)).mono ?_
  rw [e3]
  rintro e w4 ⟨rfl, hb⟩
  have HX4 := hid (Ai (Aa HX3.out.1 hb) (HX3.out.2.trans (hb.mono HX3.out.2.size)))
  clear hb x0 x1 x2
  obtain ⟨x0, x1, x2, _⟩ := Az HX4.out.1
  go_wp2
  go_ret
  exact ⟨rfl, HX4.out.2⟩
end
end Go.Proofs.YtaogfdffgdglkaaGreatDoor
