/- What is proved: a part of the walk of the program and of its plain laws; no condition beside those that each theorem names. -/
import Derived.Test.YtaogfdffgdglkaaGreatDoorYa
import Derived.Test.YtaogfdffgdglkaaGreatDoorYy
import Derived.Test.YtaogfdffgdglkaaGreatDoorYs
import Derived.Test.YtaogfdffgdglkaaGreatDoorYr
import Derived.Test.YtaogfdffgdglkaaGreatDoorYp
import Derived.Test.YtaogfdffgdglkaaGreatDoorYv
import Derived.Deep.CutRange
import Derived.BigGuard
import Derived.Deep.RegionHeldLaw
import Derived.Deep.AppendLies
import Derived.Deep.DrawnRows
namespace Go.Proofs.YtaogfdffgdglkaaGreatDoor
open Go Go.RowKit Go.Lib
set_option linter.unusedSimpArgs false
set_option linter.unusedVariables false
section
set_option maxRecDepth 100000
set_option maxHeartbeats 4000000
theorem CM {w1 : World} {N : Nat} {a0 a1 a2 a3 a4 a5 a6 : Value} {ty : TypeId} (h : w1.heap[N]? = some (.cells #[a0, a1, a2, a3, a4, a5, a6] ty)) (v0 v1 v2 v3 v4 v5 v6 : Value) (Z : World)
  (hZ : Z = (((((((w1.setCell ⟨N, 0, none⟩ v0).setCell ⟨N, 1, none⟩ v1).setCell ⟨N, 2, none⟩ v2).setCell ⟨N, 3, none⟩ v3).setCell ⟨N, 4, none⟩ v4).setCell ⟨N, 5, none⟩ v5).setCell ⟨N, 6, none⟩ v6)) :
  (Z.cell? ⟨N, 0, none⟩ = some v0 /\ Z.cell? ⟨N, 1, none⟩ = some v1 /\ Z.cell? ⟨N, 2, none⟩ = some v2 /\ Z.cell? ⟨N, 3, none⟩ = some v3 /\ Z.cell? ⟨N, 4, none⟩ = some v4 /\ Z.cell? ⟨N, 5, none⟩ = some v5 /\ Z.cell? ⟨N, 6, none⟩ = some v6) ∧
  (∀ n w, Below n w w1 -> n <= N -> Below n w Z) /\ (∀ S : Nat -> Prop, ¬ S N -> B4 S w1 Z) := by
 subst hZ
 have h0 := heap_setCell_same w1 N 0 _ _ v0 h
 have h1 := heap_setCell_same _ N 1 _ _ v1 h0
 have h2 := heap_setCell_same _ N 2 _ _ v2 h1
 have h3 := heap_setCell_same _ N 3 _ _ v3 h2
 have h4 := heap_setCell_same _ N 4 _ _ v4 h3
 have h5 := heap_setCell_same _ N 5 _ _ v5 h4
 have h6 := heap_setCell_same _ N 6 _ _ v6 h5
 have h7 : (((((((w1.setCell ⟨N, 0, none⟩ v0).setCell ⟨N, 1, none⟩ v1).setCell ⟨N, 2, none⟩ v2).setCell ⟨N, 3, none⟩ v3).setCell ⟨N, 4, none⟩ v4).setCell ⟨N, 5, none⟩ v5).setCell ⟨N, 6, none⟩ v6).heap[N]? = some (.cells #[v0, v1, v2, v3, v4, v5, v6] ty) := by
  simp only [List.setIfInBounds_toArray, List.set_cons_zero, List.set_cons_succ] at h6
  exact h6
 refine ⟨⟨?_, ?_, ?_, ?_, ?_, ?_, ?_⟩, fun n w hb hn => ?_, fun S hS => ⟨Nat.le_of_eq (by simp only [World.size_setCell]), fun b o x hb hc => ?_⟩⟩
 ·simp [World.cell?, h7]
 ·simp [World.cell?, h7]
 ·simp [World.cell?, h7]
 ·simp [World.cell?, h7]
 ·simp [World.cell?, h7]
 ·simp [World.cell?, h7]
 ·simp [World.cell?, h7]
 ·have b0 := hb.setCell (p := ⟨N, 0, none⟩) hn v0
  have b1 := b0.setCell (p := ⟨N, 1, none⟩) hn v1
  have b2 := b1.setCell (p := ⟨N, 2, none⟩) hn v2
  have b3 := b2.setCell (p := ⟨N, 3, none⟩) hn v3
  have b4 := b3.setCell (p := ⟨N, 4, none⟩) hn v4
  have b5 := b4.setCell (p := ⟨N, 5, none⟩) hn v5
  exact b5.setCell (p := ⟨N, 6, none⟩) hn v6
 ·have hne : b ≠ N := by rintro rfl; exact hS hb
  refine (World.cell?_of_block (w := w1) (a := ⟨b, o, none⟩) ?_).trans hc
  exact (Bh _ ⟨N, 6, none⟩ _ b hne).trans ((Bh _ ⟨N, 5, none⟩ _ b hne).trans ((Bh _ ⟨N, 4, none⟩ _ b hne).trans ((Bh _ ⟨N, 3, none⟩ _ b hne).trans ((Bh _ ⟨N, 2, none⟩ _ b hne).trans ((Bh _ ⟨N, 1, none⟩ _ b hne).trans (Bh w1 ⟨N, 0, none⟩ _ b hne))))))
theorem Ay {w : World} {N : Nat} {a0 a1 a2 a3 a4 a5 a6 : Value} {ty : TypeId} (h : w.heap[N]? = some (.cells #[a0, a1, a2, a3, a4, a5, a6] ty)) :
  w.cell? ⟨N, 0, none⟩ = some a0 /\ w.cell? ⟨N, 1, none⟩ = some a1 /\ w.cell? ⟨N, 2, none⟩ = some a2 /\ w.cell? ⟨N, 3, none⟩ = some a3 /\ w.cell? ⟨N, 4, none⟩ = some a4 /\ w.cell? ⟨N, 5, none⟩ = some a5 /\ w.cell? ⟨N, 6, none⟩ = some a6 ∧
  w.frozen? ⟨N, 0, none⟩ = false /\ w.frozen? ⟨N, 1, none⟩ = false /\ w.frozen? ⟨N, 2, none⟩ = false /\ w.frozen? ⟨N, 3, none⟩ = false /\ w.frozen? ⟨N, 4, none⟩ = false /\ w.frozen? ⟨N, 5, none⟩ = false /\ w.frozen? ⟨N, 6, none⟩ = false := by
 refine ⟨?_, ?_, ?_, ?_, ?_, ?_, ?_, ?_, ?_, ?_, ?_, ?_, ?_, ?_⟩ <;> simp [World.cell?, World.frozen?, h]
theorem Wf {w1 : World} {N M j : Nat} {v0 v1 v2 v3 v4 v5 v6 x : Value} (h : w1.cell? ⟨M, j, none⟩ = some x) (hne : M ≠ N) :
  (((((((w1.setCell ⟨N, 0, none⟩ v0).setCell ⟨N, 1, none⟩ v1).setCell ⟨N, 2, none⟩ v2).setCell ⟨N, 3, none⟩ v3).setCell ⟨N, 4, none⟩ v4).setCell ⟨N, 5, none⟩ v5).setCell ⟨N, 6, none⟩ v6).cell? ⟨M, j, none⟩ = some x := by
 refine (World.cell?_of_block (w := w1) (a := ⟨M, j, none⟩) ?_).trans h
 exact (Bh _ ⟨N, 6, none⟩ _ M hne).trans ((Bh _ ⟨N, 5, none⟩ _ M hne).trans ((Bh _ ⟨N, 4, none⟩ _ M hne).trans ((Bh _ ⟨N, 3, none⟩ _ M hne).trans ((Bh _ ⟨N, 2, none⟩ _ M hne).trans ((Bh _ ⟨N, 1, none⟩ _ M hne).trans (Bh w1 ⟨N, 0, none⟩ _ M hne))))))
def VC (ts : List AV) (r : FR) (w : World) (e : Ending) (w' : World) : Prop :=
 match r with
 | .ok t rest => ∃ (q : Nat) (tv : Value), q <= ts.length /\ rest = AP (ts.drop q) /\ e = .returned (.tuple #[tv, .int .i64 q, .int .i64 0]) /\ Ao w' (fun b => w.heap.size <= b) t tv /\ Below w.heap.size w w'
 | .bad er => e = .returned (.tuple #[FV, .int .i64 0, .int .i64 er]) /\ Below w.heap.size w w'
theorem PM (v : Value) (ts : List AV) (p : Nat) (w : World) (hx : Fx ts) (hv : AO w v ts) (hT : Bz w) (hE : Cb w) (hp : p <= ts.length) :
  Calls Tryz.prog 137 #[v, .int .i64 p] w (VC ts (AZ (2 * (ts.length - p) + 2) 1 (AP (ts.drop p))) w) := by
 obtain ⟨A, ca, rfl, hA⟩ := id hv
 obtain ⟨w1, hw1⟩ : ∃ w1, (w.alloc (.cells #[.int .i64 0, .string ⟨#[]⟩, .int .i64 0, .int .i64 0, .string ⟨#[]⟩, .slice none 0 0, .slice none 0 0] 30)).alloc (.cells #[.slice A ts.length ca, .int .i64 p] 263) = w1 := ⟨_, rfl⟩
 have hb1 : Below w.heap.size w w1 := by rw [<- hw1]; exact ((Bq _ w).alloc Nr _).alloc (by simp) _
 have hrf : RF w1 (w.heap.size + 1) (.slice A ts.length ca) p := by
  have := Wn (w.alloc (.cells #[.int .i64 0, .string ⟨#[]⟩, .int .i64 0, .int .i64 0, .string ⟨#[]⟩, .slice none 0 0, .slice none 0 0] 30)) (.cells #[.slice A ts.length ca, .int .i64 p] 263)
  rw [World.size_alloc, hw1] at this
  exact this
 have hrd : Rd w1 (w.heap.size + 1) (.slice A ts.length ca) ts p := ⟨hrf, hv.below hb1, w, hT, by omega, hb1⟩
 have hC := Hs (w.heap.size + 1) (.slice A ts.length ca) ts hx (2 * (ts.length - p) + 2) _ Nr 1 p w1 hrd hp (by omega) (by omega)
 rw [show ((1 : Nat) : Int) = 1 from rfl] at hC
 have hN : w1.heap[w.heap.size]? = some (.cells #[.int .i64 0, .string ⟨#[]⟩, .int .i64 0, .int .i64 0, .string ⟨#[]⟩, .slice none 0 0, .slice none 0 0] 30) := by
  rw [<- hw1]; exact (Below.heap_alloc _ _ _ (by simp)).trans (Wn w _)
 have hz1 : w1.heap.size = w.heap.size + 1 + 1 := by rw [<- hw1]; simp
 have HW := hid hw1
 have HB1 := hid hb1
 have hsm1 := L3
 have hsm2 := La
 have hmt := IP
 clear hA hv hrf hrd hb1
 cases hr : AZ (2 * (ts.length - p) + 2) 1 (AP (ts.drop p)) with
 | bad er =>
  rw [hr] at hC
  go_enter Tryz.func137, Tryz.ntmps137
  go_wp2_with fail
  refine hC.mono ?_
  rintro e w2 ⟨rfl, hm⟩
  have hN2 := hm.heap hN (by omega)
  have hb2 : Below w.heap.size w w2 := Af.below hm HB1.out (fun k hk => by omega) (by omega) Nr
  have hE2 : Cb (w2.alloc (.cells #[.iface 281 (.agg #[.int .i64 er])] 268)) := (hE.below hb2).below ((Bq _ w2).alloc Nr _)
  have hTo := Go.Proofs.YtaogfdffgdglkaaGreatDoor.Fw.told_any er _ hE2
  have hb3 := hb2.alloc hb2.size (.cells #[.iface 281 (.agg #[.int .i64 er])] 268)
  have hN3 := Aa hN2 ((Bq _ w2).alloc Nr (.cells #[.iface 281 (.agg #[.int .i64 er])] 268))
  unfold CZ
  clear hC hm hN hN2 hw1 hE hE2 hT hb2
  go_wp2_with fail
  refine hTo.mono ?_
  rintro e w4 ⟨rfl, hb4⟩
  have hN4 := Aa hN3 hb4
  have hb5 := hb3.trans (hb4.mono hb3.size)
  have hC4 : w4.cell? ⟨w.heap.size, 0, none⟩ = some (.int .i64 0) /\ w4.cell? ⟨w.heap.size, 1, none⟩ = some (.string ⟨#[]⟩) /\ w4.cell? ⟨w.heap.size, 2, none⟩ = some (.int .i64 0) /\ w4.cell? ⟨w.heap.size, 3, none⟩ = some (.int .i64 0) /\ w4.cell? ⟨w.heap.size, 4, none⟩ = some (.string ⟨#[]⟩) /\ w4.cell? ⟨w.heap.size, 5, none⟩ = some (.slice none 0 0) /\ w4.cell? ⟨w.heap.size, 6, none⟩ = some (.slice none 0 0) := by
   refine ⟨?_, ?_, ?_, ?_, ?_, ?_, ?_⟩ <;> simp [World.cell?, hN4]
  obtain ⟨x0, x1, x2, x3, x4, x5, x6⟩ := hC4
  have hf : ∀ j, w4.frozen? ⟨w.heap.size, j, none⟩ = false := fun j => by simp [World.frozen?, hN4]
  have y0 := hf 0
  have y1 := hf 1
  have y2 := hf 2
  have y3 := hf 3
  have y4 := hf 4
  have y5 := hf 5
  have y6 := hf 6
  have HF := hid (CM hN4 (.int .i64 0) (.string ⟨#[]⟩) (.int .i64 0) (.int .i64 0) (.string ⟨#[]⟩) (.slice none 0 0) (.slice none 0 0))
  have HB5 := hid hb5
  clear hf hN3 hN4 hb3 hb4 hb5 hTo
  go_wp2
  obtain ⟨⟨c0, c1, c2, c3, c4, c5, c6⟩, hbb, _⟩ := HF.out _ rfl
  refine bodyPost_ret (v := .tuple #[FV, .int .i64 0, .int .i64 er]) (by simp [results, Tryz.results137, go_sem, c0, c1, c2, c3, c4, c5, c6, FV]) rfl ⟨rfl, hbb _ _ HB5.out Nr⟩
 | ok t rest =>
  rw [hr] at hC
  go_enter Tryz.func137, Tryz.ntmps137
  go_wp2_with fail
  refine hC.mono ?_
  rintro e w2 ⟨q, tv, hq, hrest, rfl, ht, hrf2, hm⟩
  have hN2 := hm.heap hN (by omega)
  have hb2 : Below w.heap.size w w2 := Af.below hm HB1.out (fun k hk => by omega) (by omega) Nr
  obtain ⟨tk, tnm, xk, xn, xs, KA0, kl, kc, TA, tl, tc, rfl⟩ := ht.form
  have hA : Below w2.heap.size w2 (w2.alloc (.cells #[.nilIface] 268)) := (Bq _ w2).alloc Nr _
  have hb3 := hb2.trans (hA.mono hb2.size)
  have hN3 := Aa hN2 hA
  have hrf3 := hrf2.below hA
  have ht3 := ht.below hA
  have g1 := hrf3.cells.2.1
  have HQ := hid (Ai hq hrest)
  have hql : q <= 1000000 := by have := hx.len; omega
  clear hC hm hN hN2 hw1 hE hT hb2 hA hrf2 ht hq hrest
  go_upto_region 6 with fail
  have hne : w.heap.size + 1 ≠ w.heap.size := by omega
  refine M3 (S := fun L w' => L.getD 8 true = false -> w'.cell? ⟨w.heap.size + 1, 1, none⟩ = some (.int .i64 q)) (by kernel_rfl) (fun _ => g1) (fun hS => ?_)
  refine wL 0 1 hS (fun hS => ?_); try simp only [gS]
  refine wL 2 3 hS (fun hS => ?_); try simp only [gS]
  refine wL 3 4 hS (fun hS => ?_); try simp only [gS]
  refine wL 4 5 hS (fun hS => ?_); try simp only [gS]
  refine wL 5 6 hS (fun hS => ?_); try simp only [gS]
  refine wM 6 8 ?_ ?_ hS (fun hS => ?_)
  rotate_left
  ·intro L w' hL hm; (try dsimp only at hL); have hc := hL hm; go_simp; (try with_reducible rfl)
  try simp only [gS]
  refine Aj (rs := [1]) (by kernel_rfl) (by simp) (Ad.cons rfl (by rfl) (fun K hK => ?_) Ad.nil)
  go_simp
  refine (I7 tk tnm xk xn xs KA0 kl kc TA tl tc _).mono ?_
  rintro e w4 ⟨rfl, hb4⟩
  have gg1 := Ab (w := (w2.alloc (.cells #[.nilIface] 268)).drew) (show (w2.alloc (.cells #[.nilIface] 268)).drew.cell? ⟨w.heap.size + 1, 1, none⟩ = some (.int .i64 q) from g1) hb4
  have hN4 := Aa (w := (w2.alloc (.cells #[.nilIface] 268)).drew) (show (w2.alloc (.cells #[.nilIface] 268)).drew.heap[w.heap.size]? = _ from hN3) hb4
  obtain ⟨x0, x1, x2, x3, x4, x5, x6, y0, y1, y2, y3, y4, y5, y6⟩ := Ay hN4
  have HX := hid (Ai hb4 hN4)
  refine hK.out _ _ (fun _ => gg1) (fun hS => ?_)
  clear hK K hb4 hN4
  try simp only [gS]
  refine Aj (rs := [7]) (by kernel_rfl) (by simp) (Ad.cons rfl (by rfl) (fun K hK => ?_) Ad.nil)
  go_simp
  refine hK.out _ _ (fun _ => Wf gg1 hne) (fun hS => ?_)
  clear hK K
  try simp only [gS]
  refine Aj (rs := [8]) (by kernel_rfl) (by simp) (Ad.cons rfl (by rfl) (fun K hK => ?_) Ad.nil)
  go_simp
  refine hK.out _ _ (fun hc => absurd hc (by decide)) (fun hS => ?_)
  clear hK K
  try simp only [gS]
  refine Aj (rs := [9]) (by kernel_rfl) (by simp) (Ad.cons rfl (by rfl) (fun K hK => ?_) Ad.nil)
  go_simp
  refine hK.out _ _ (fun hc => absurd hc (by decide)) (fun hS => ?_)
  clear hK K
  try simp only [gS]
  refine AU (by kernel_rfl) ?_ _
  refine NoPanic.normal ?_
  have HF := hid (CM HX.out.2 (.int .i64 tk) (.string tnm) (.int .i64 xk) (.int .i64 xn) (.string xs) (.slice KA0 kl kc) (.slice TA tl tc))
  have HT := hid ht3
  clear hS g1 gg1 x0 x1 x2 x3 x4 x5 x6 y0 y1 y2 y3 y4 y5 y6 hN3 ht3
  go_wp2
  obtain ⟨⟨c0, c1, c2, c3, c4, c5, c6⟩, hbb, hww⟩ := HF.out _ rfl
  have hb4 : Below (w2.alloc (.cells #[.nilIface] 268)).heap.size (w2.alloc (.cells #[.nilIface] 268)) w4 := (Bq _ _).drew.trans HX.out.1
  refine bodyPost_ret (v := .tuple #[.agg #[.int .i64 tk, .string tnm, .int .i64 xk, .int .i64 xn, .string xs, .slice KA0 kl kc, .slice TA tl tc], .int .i64 q, .int .i64 0]) (by simp [results, Tryz.results137, go_sem, c0, c1, c2, c3, c4, c5, c6]) rfl ⟨q, _, HQ.out.1, HQ.out.2, rfl, ?_, hbb _ _ (hb3.trans (hb4.mono hb3.size)) Nr⟩
  exact Au (S := fun b => w1.heap.size <= b) (fun b _ hb => by omega) _ _ (As (hww _ (by omega)) _ _ (HT.out.below hb4))
def VG (r : Tr × Int) (w : World) (e : Ending) (w' : World) : Prop := ∃ tv, e = .returned (.tuple #[tv, .int .i64 r.2]) /\ Ao w' (fun b => w.heap.size <= b) r.1 tv /\ Below w.heap.size w w'
theorem EB (w : World) (S : Nat -> Prop) : Ao w S CL FV := Ao.one w S CF
theorem AO.drop {w : World} {b o n ca q : Nat} {ts : List AV} (h : AO w (.slice (some ⟨b, o, none⟩) n ca) ts) (hq : q <= ts.length) (c : Nat) : AO w (.slice (some ⟨b, o + q * 3, none⟩) (n - q) c) (ts.drop q) := by
 obtain ⟨A, cap, hv, hc⟩ := h
 injection hv with e1 e2 e3
 refine ⟨some ⟨b, o + q * 3, none⟩, c, by rw [List.length_drop, e2], fun k hk => ?_⟩
 rw [List.length_drop] at hk
 obtain ⟨b', o', ha, hlt, h0, h1, h2⟩ := hc (q + k) (by omega)
 rw [<- e1] at ha
 injection ha with ha
 injection ha with ha1 ha2
 subst ha1 ha2
 have e : (ts.drop q).getD k ⟨0, [], 0⟩ = ts.getD (q + k) ⟨0, [], 0⟩ := by simp [List.getD]
 rw [e]
 have e3 : o + q * 3 + k * 3 = o + (q + k) * 3 := by omega
 exact ⟨b, o + q * 3, rfl, hlt, by rw [e3]; exact h0, by rw [e3]; exact h1, by rw [e3]; exact h2⟩
theorem PL (v : Value) (ts : List AV) (w : World) (hx : Fx ts) (hv : AO w v ts) (hcap : ∀ A n c, v = .slice A n c -> n <= c) (hT : Bz w) (hE : Cb w) :
  Calls Tryz.prog 112 #[v] w (VG (AI (AP ts)) w) := by
 have hw : AI (AP ts) = match AZ (2 * (ts.length - 0) + 2) 1 (AP (ts.drop 0)) with
   | .ok t rest => if rest = [] then (t, 0) else (CL, 91)
   | .bad e => (CL, e) := by
  unfold AI L4
  rw [List.drop_zero, Nat.sub_zero, show (AP ts).length = ts.length by unfold AP; simp]
  cases AZ (2 * ts.length + 2) 1 (AP ts) with
  | bad e => rfl
  | ok t rest => cases rest <;> simp
 rw [hw]
 clear hw
 have hb0 : Below w.heap.size w (w.alloc (.cells #[.int .i64 0, .string ⟨#[]⟩, .int .i64 0, .int .i64 0, .string ⟨#[]⟩, .slice none 0 0, .slice none 0 0] 30)) := (Bq _ w).alloc Nr _
 have hN := Wn w (.cells #[.int .i64 0, .string ⟨#[]⟩, .int .i64 0, .int .i64 0, .string ⟨#[]⟩, .slice none 0 0, .slice none 0 0] 30)
 have hC := PM v ts 0 _ hx (hv.below hb0) (hT.below hb0) (hE.below hb0) (Nat.zero_le _)
 rw [show ((0 : Nat) : Int) = 0 from rfl] at hC
 obtain ⟨r, hr⟩ : ∃ r, AZ (2 * (ts.length - 0) + 2) 1 (AP (ts.drop 0)) = r := ⟨_, rfl⟩
 rw [hr] at hC |-
 cases r with
 | bad er =>
  have her : er ≠ 0 := (O3 _).1 _ _ _ hr
  have hee : (er == 0) = false := by rw [beq_eq_false_iff_ne]; exact her
  simp only
  obtain ⟨A, ca, rfl, _⟩ := hv
  obtain ⟨r0, hr0⟩ : ∃ r0, ((CL, er) : Tr × Int) = r0 := ⟨_, rfl⟩
  rw [hr0]
  have HR := hid hr0
  have HB0 := hid hb0
  clear hr hr0 hcap hx hT hE hb0
  go_enter Tryz.func112, Tryz.ntmps112
  go_wp2_with fail
  refine hC.mono ?_
  rintro e w1 ⟨rfl, hb1⟩
  unfold FV
  have hN1 := Aa hN hb1
  have hb2 := HB0.out.trans (hb1.mono HB0.out.size)
  have hN2 := Aa hN1 ((Bq _ w1).alloc Nr (.cells #[.int .i64 0, .string ⟨#[]⟩, .int .i64 0, .int .i64 0, .string ⟨#[]⟩, .slice none 0 0, .slice none 0 0] 30))
  have hb3 := hb2.alloc hb2.size (.cells #[.int .i64 0, .string ⟨#[]⟩, .int .i64 0, .int .i64 0, .string ⟨#[]⟩, .slice none 0 0, .slice none 0 0] 30)
  have HF := hid (CM hN2 (.int .i64 0) (.string ⟨#[]⟩) (.int .i64 0) (.int .i64 0) (.string ⟨#[]⟩) (.slice none 0 0) (.slice none 0 0))
  obtain ⟨x0, x1, x2, x3, x4, x5, x6, y0, y1, y2, y3, y4, y5, y6⟩ := Ay hN2
  have HB3 := hid hb3
  clear hC hN hN1 hb1 hb2 hb3 hN2
  go_wp2
  obtain ⟨⟨c0, c1, c2, c3, c4, c5, c6⟩, hbb, hww⟩ := HF.out _ rfl
  refine bodyPost_ret (v := .tuple #[FV, .int .i64 er]) (by simp [results, Tryz.results112, go_sem, c0, c1, c2, c3, c4, c5, c6, FV]) rfl ?_
  rw [<- HR.out]
  exact ⟨FV, rfl, EB _ _, hbb _ _ HB3.out Nr⟩
 | ok t rest =>
  have hless := J5 hr
  rw [FA] at hless
  have hne : 0 < ts.length := by omega
  obtain ⟨A, ca, rfl, hA⟩ := id hv
  have hca := hcap A _ ca rfl
  obtain ⟨b, o, rfl, _⟩ := hA 0 hne
  obtain ⟨r0, hr0⟩ : ∃ r0, ((if rest = [] then (t, 0) else (CL, 91)) : Tr × Int) = r0 := ⟨_, rfl⟩
  simp only
  rw [hr0]
  have HR := hid hr0
  have HB0 := hid hb0
  have hlen := hx.len
  have HV := hid hv
  obtain ⟨n, hn⟩ : ∃ n, ts.length = n := ⟨_, rfl⟩
  have HN := hid hn
  rw [hn] at hca hlen hC
  clear hr hr0 hcap hT hE hb0 hn hA hv hx hne
  go_enter Tryz.func112, Tryz.ntmps112
  rw [HN.out]
  go_wp2_with fail
  refine hC.mono ?_
  rintro e w1 ⟨q, tv, hq, hrest, rfl, ht, hb1⟩
  obtain ⟨tk, tnm, xk, xn, xs, KA0, kl, kc, TA, tl, tc, rfl⟩ := ht.form
  have hN1 := Aa hN hb1
  have hb2 := HB0.out.trans (hb1.mono HB0.out.size)
  have hAl : Below w1.heap.size w1 (w1.alloc (.cells #[.int .i64 tk, .string tnm, .int .i64 xk, .int .i64 xn, .string xs, .slice KA0 kl kc, .slice TA tl tc] 30)) := (Bq _ w1).alloc Nr _
  have hb3 := hb2.trans (hAl.mono hb2.size)
  have hN2 := Aa hN1 hAl
  have hV2 := HV.out.below hb3
  have hT2 := ht.below hAl
  have hC7 := Aa (Wn w1 (.cells #[.int .i64 tk, .string tnm, .int .i64 xk, .int .i64 xn, .string xs, .slice KA0 kl kc, .slice TA tl tc] 30)) (Bq _ _)
  have hqn : q <= n := by rw [<- HN.out]; exact hq
  have hq0 : 0 < q := by rw [hrest, FA] at hless; omega
  have hq1 : (0 : Int) <= (q : Int) := by omega
  have hq2 : (q : Int) <= (n : Int) := by omega
  have hq3 : (n : Int) <= (ca : Int) := by omega
  have HB3 := hid hb3
  have HT2 := hid hT2
  clear hC hN hN1 hb1 hb2 hb3 hAl ht hT2 hless
  by_cases hcq : q = ca
  ·have hnq : q = n := by omega
   have hS := Ji (.slice (some ⟨b, o, none⟩) 0 0) (.slice none 0 0) (ts.drop q) [] _ (⟨some ⟨b, o, none⟩, 0, by rw [List.length_drop, HN.out, <- hnq, Nat.sub_self], fun k hk => by rw [List.length_drop, HN.out] at hk; omega⟩ : AO _ (.slice (some ⟨b, o, none⟩) 0 0) (ts.drop q)) (AO.nil (w1.alloc (.cells #[.int .i64 tk, .string tnm, .int .i64 xk, .int .i64 xn, .string xs, .slice KA0 kl kc, .slice TA tl tc] 30))) (by rw [List.length_drop, HN.out]; omega) (by simp)
   clear hV2
   subst hcq
   subst hnq
   go_wp2_with fail
   refine hS.mono ?_
   rintro e w3 ⟨rfl, hb4⟩
   have hN3 := Aa hN2 hb4
   have hC8 := Aa hC7 hb4
   have HB4 := hid (HB3.out.trans (hb4.mono HB3.out.size))
   have HT3 := hid (HT2.out.below hb4)
   obtain ⟨x0, x1, x2, x3, x4, x5, x6, y0, y1, y2, y3, y4, y5, y6⟩ := Ay hN3
   obtain ⟨z0, z1, z2, z3, z4, z5, z6, _, _, _, _, _, _, _⟩ := Ay hC8
   clear hS hN2 hC7 hb4 hC8
   by_cases hd : ts.drop q = []
   ·have hr1 : r0 = (t, 0) := by rw [<- HR.out, hrest, if_pos (by rw [hd]; rfl)]
    rw [decide_eq_true hd]
    subst hr1
    have HF := hid (CM hN3 (.int .i64 tk) (.string tnm) (.int .i64 xk) (.int .i64 xn) (.string xs) (.slice KA0 kl kc) (.slice TA tl tc))
    clear hd hrest hN3
    go_wp2
    obtain ⟨⟨c0, c1, c2, c3, c4, c5, c6⟩, hbb, hww⟩ := HF.out _ rfl
    refine bodyPost_ret (v := .tuple #[.agg #[.int .i64 tk, .string tnm, .int .i64 xk, .int .i64 xn, .string xs, .slice KA0 kl kc, .slice TA tl tc], .int .i64 0]) (by simp [results, Tryz.results112, go_sem, c0, c1, c2, c3, c4, c5, c6]) rfl ?_
    refine ⟨_, rfl, Au (S := fun b => w.heap.size < b) (fun b _ hb => by omega) _ _ (As (hww _ (by omega)) _ _ (Au (fun b _ hb => by rw [World.size_alloc] at hb; omega) _ _ HT3.out)), hbb _ _ HB4.out Nr⟩
   ·have hr1 : r0 = (CL, 91) := by rw [<- HR.out, hrest, if_neg (fun e => hd (by unfold AP at e; exact List.map_eq_nil_iff.1 e))]
    rw [decide_eq_false hd]
    subst hr1
    have HF := hid (CM hN3 (.int .i64 0) (.string ⟨#[]⟩) (.int .i64 0) (.int .i64 0) (.string ⟨#[]⟩) (.slice none 0 0) (.slice none 0 0))
    clear hd hrest hN3
    go_wp2
    obtain ⟨⟨c0, c1, c2, c3, c4, c5, c6⟩, hbb, hww⟩ := HF.out _ rfl
    refine bodyPost_ret (v := .tuple #[FV, .int .i64 91]) (by simp [results, Tryz.results112, go_sem, c0, c1, c2, c3, c4, c5, c6, FV]) rfl ?_
    exact ⟨FV, rfl, EB _ _, hbb _ _ HB4.out Nr⟩
  ·have hS := Ji (.slice (some ⟨b, o + q * 3, none⟩) (n - q) (ca - q)) (.slice none 0 0) (ts.drop q) [] _ (by rw [<- HN.out]; exact hV2.drop hq _) (AO.nil _) (by rw [List.length_drop, HN.out]; omega) (by simp)
   have hq4 : (q : Int) < (ca : Int) := by omega
   have hq5 : ¬ (ca : Int) = (q : Int) := by omega
   have hq6 : ¬ ca <= q := by omega
   clear hV2
   go_wp2_with fail
   refine hS.mono ?_
   rintro e w3 ⟨rfl, hb4⟩
   have hN3 := Aa hN2 hb4
   have hC8 := Aa hC7 hb4
   have HB4 := hid (HB3.out.trans (hb4.mono HB3.out.size))
   have HT3 := hid (HT2.out.below hb4)
   obtain ⟨x0, x1, x2, x3, x4, x5, x6, y0, y1, y2, y3, y4, y5, y6⟩ := Ay hN3
   obtain ⟨z0, z1, z2, z3, z4, z5, z6, _, _, _, _, _, _, _⟩ := Ay hC8
   clear hS hN2 hC7 hb4 hC8
   by_cases hd : ts.drop q = []
   ·have hr1 : r0 = (t, 0) := by rw [<- HR.out, hrest, if_pos (by rw [hd]; rfl)]
    rw [decide_eq_true hd]
    subst hr1
    have HF := hid (CM hN3 (.int .i64 tk) (.string tnm) (.int .i64 xk) (.int .i64 xn) (.string xs) (.slice KA0 kl kc) (.slice TA tl tc))
    clear hd hrest hN3
    go_wp2
    obtain ⟨⟨c0, c1, c2, c3, c4, c5, c6⟩, hbb, hww⟩ := HF.out _ rfl
    refine bodyPost_ret (v := .tuple #[.agg #[.int .i64 tk, .string tnm, .int .i64 xk, .int .i64 xn, .string xs, .slice KA0 kl kc, .slice TA tl tc], .int .i64 0]) (by simp [results, Tryz.results112, go_sem, c0, c1, c2, c3, c4, c5, c6]) rfl ?_
    refine ⟨_, rfl, Au (S := fun b => w.heap.size < b) (fun b _ hb => by omega) _ _ (As (hww _ (by omega)) _ _ (Au (fun b _ hb => by rw [World.size_alloc] at hb; omega) _ _ HT3.out)), hbb _ _ HB4.out Nr⟩
   ·have hr1 : r0 = (CL, 91) := by rw [<- HR.out, hrest, if_neg (fun e => hd (by unfold AP at e; exact List.map_eq_nil_iff.1 e))]
    rw [decide_eq_false hd]
    subst hr1
    have HF := hid (CM hN3 (.int .i64 0) (.string ⟨#[]⟩) (.int .i64 0) (.int .i64 0) (.string ⟨#[]⟩) (.slice none 0 0) (.slice none 0 0))
    clear hd hrest hN3
    go_wp2
    obtain ⟨⟨c0, c1, c2, c3, c4, c5, c6⟩, hbb, hww⟩ := HF.out _ rfl
    refine bodyPost_ret (v := .tuple #[FV, .int .i64 91]) (by simp [results, Tryz.results112, go_sem, c0, c1, c2, c3, c4, c5, c6, FV]) rfl ?_
    exact ⟨FV, rfl, EB _ _, hbb _ _ HB4.out Nr⟩
theorem Lx (u v : Value) (xs ys : List Sc) (w : World) (hx : Cy w u xs) (hy : Cy w v ys) (hl : xs.length <= 1000000) (hm : ys.length <= 1000000) :
  Calls Tryz.prog 31 #[u, v] w fun e w' => e = .returned (.bool (decide (xs = ys))) /\ Below w.heap.size w w' := by
 obtain ⟨A, ca, rfl, hA⟩ := hx
 obtain ⟨B, cb, rfl, hB⟩ := hy
 by_cases hne : xs.length = ys.length
 ·obtain ⟨n, hn⟩ : ∃ n, xs.length = n := ⟨_, rfl⟩
  rw [hn] at hne hA hl |-
  rw [<- hne] at hB hm |-
  have HN := hid (Ai hn hne)
  clear hn hne
  go_enter Tryz.func31, Tryz.ntmps31
  go_wp2
  go_loopw [13] (fun i wr => (∃ q, wr = w.drewN q) /\ ∃ k : Nat, k <= n /\ i = .int .i64 k /\ Hid (xs.take k = ys.take k)) (fun i _ => n - (intOf i).toNat)
  case atStart => exact ⟨⟨0, rfl⟩, 0, by omega, rfl, hid rfl⟩
  case round =>
   obtain ⟨⟨q0, rfl⟩, k, hk, rfl, HI⟩ := hrel
   by_cases hlt : k < n
   ·obtain ⟨a, o, rfl, ha, a0, a1, a2⟩ := hA k hlt
    obtain ⟨b, o2, rfl, hb, b0, b1, b2⟩ := hB k hlt
    obtain ⟨⟨k1, p1, s1⟩, hx⟩ : ∃ x, xs.getD k CF = x := ⟨_, rfl⟩
    obtain ⟨⟨k2, p2, s2⟩, hy⟩ : ∃ x, ys.getD k CF = x := ⟨_, rfl⟩
    rw [hx] at a0 a1 a2
    rw [hy] at b0 b1 b2
    have HX := hid (Ai hx hy)
    clear hx hy
    clear hA hB
    have hki : (k : Int) < (n : Int) := by omega
    go_wp2
    obtain ⟨bb, hbb⟩ : ∃ bb, ((k1 : Int) == (k2 : Int) && ((p1 : Int) == (p2 : Int) && s1.toList == s2.toList)) = bb := ⟨_, rfl⟩
    have hE := fun wx => Ve k1 p1 k2 p2 s1 s2 wx
    rw [hbb] at hE
    have HB := hid (show decide ((⟨k1, p1, s1⟩ : Sc) = ⟨k2, p2, s2⟩) = bb from (VK ⟨k1, p1, s1⟩ ⟨k2, p2, s2⟩).symm.trans hbb)
    clear hbb
    have HT := hid (RR (xs := xs) (ys := ys) (k := k) (by have := HN.out; omega) (by have := HN.out; omega) HI.out)
    go_quiet (fail)
    cases bb with
    | true =>
     have HI' := hid (HT.out.1 (by rw [HX.out.1, HX.out.2]; exact of_decide_eq_true HB.out))
     go_wp2
     go_roundw
     case rel => exact ⟨⟨_, rfl⟩, k + 1, by omega, by go_num, HI'⟩
     case measure => simp [intOf]; omega
    | false =>
     have HF := hid (HT.out.2 (by rw [HX.out.1, HX.out.2]; exact of_decide_eq_false HB.out))
     go_wp2
     go_ret
     exact ⟨by rw [decide_eq_false HF.out]; rfl, by first | exact Ae (Ae (Bq _ _)) | exact Ae (Bq _ _) | exact Bq _ _⟩
   ·have HF := hid (show xs = ys by
     have h := HI.out
     rwa [List.take_of_length_le (by have := HN.out; omega), List.take_of_length_le (by have := HN.out; omega)] at h)
    have hki : ¬ (k : Int) < (n : Int) := by omega
    go_wp2
    go_ret
    exact ⟨by rw [decide_eq_true HF.out]; rfl, by first | exact Ae (Ae (Bq _ _)) | exact Ae (Bq _ _) | exact Bq _ _⟩
 ·have HF := hid (show ¬ xs = ys from fun h => hne (by rw [h]))
  have hne' : ((xs.length : Int) == (ys.length : Int)) = false := by rw [beq_eq_false_iff_ne]; omega
  go_enter Tryz.func31, Tryz.ntmps31
  go_wp2
  go_ret
  exact ⟨by rw [decide_eq_false HF.out]; rfl, Bq _ _⟩
def Sm (M : Nat) : Tr -> Prop
 | .mk _ _ _ ks ts => ks.length <= M /\ ts.length <= M /\ SmTs ts
where SmTs : List Tr -> Prop
 | [] => True
 | t :: r => Sm M t /\ SmTs r
def Nn (t : Tr) : Prop := ∀ (tv uv : Value) (S S' : Nat -> Prop) (w : World), Ao w S t tv -> Ao w S' t uv -> Sm 1000000 t →
 Calls Tryz.prog 17 #[tv, uv] w fun e w' => e = .returned (.bool true) /\ Below w.heap.size w w'
theorem Lj {M : Nat} : ∀ (ts : List Tr) (k : Nat), k < ts.length -> Sm.SmTs M ts -> Sm M (ts.getD k CL)
 | [], k, h, _ => by simp at h
 | t :: r, 0, _, h => by unfold Sm.SmTs at h; exact h.1
 | t :: r, k + 1, h, hs => by unfold Sm.SmTs at hs; exact Lj r k (by simpa using h) hs.2
theorem I4 {w : World} {S : Nat -> Prop} {A : Option Addr} : ∀ (ts : List Tr) (i k : Nat), k < ts.length -> Ao.TsIn w S A i ts -> ∃ (b o : Nat) (tv : Value), A = some ⟨b, o, none⟩ /\ Jl w b (o + (i + k) * 7) tv /\ Ao w S (ts.getD k CL) tv
 | [], i, k, h, _ => by simp at h
 | t :: r, i, 0, _, h => by
  unfold Ao.TsIn at h
  obtain ⟨⟨b, o, tv, e, _, _, h7, ht⟩, _⟩ := h
  exact ⟨b, o, tv, e, h7, ht⟩
 | t :: r, i, k + 1, h, hs => by
  unfold Ao.TsIn at hs
  obtain ⟨b, o, tv, e, h7, ht⟩ := I4 r (i + 1) k (by simpa using h) hs.2
  exact ⟨b, o, tv, e, by rw [show i + (k + 1) = i + 1 + k by omega]; exact h7, ht⟩
theorem Jl.form {w : World} {S : Nat -> Prop} {t : Tr} {b q : Nat} {tv : Value} (h : Jl w b q tv) (ht : Ao w S t tv) : ∃ (k : Int) (nm : ByteArray) (xk xn : Int) (xs : ByteArray) (KA : Option Addr) (kl kc : Nat) (A : Option Addr) (l c : Nat),
  tv = .agg #[.int .i64 k, .string nm, .int .i64 xk, .int .i64 xn, .string xs, .slice KA kl kc, .slice A l c] /\ w.cell? ⟨b, q, none⟩ = some (.int .i64 k) /\ w.cell? ⟨b, q + 1, none⟩ = some (.string nm) /\ w.cell? ⟨b, q + 2, none⟩ = some (.int .i64 xk) ∧
  w.cell? ⟨b, q + 3, none⟩ = some (.int .i64 xn) /\ w.cell? ⟨b, q + 4, none⟩ = some (.string xs) /\ w.cell? ⟨b, q + 5, none⟩ = some (.slice KA kl kc) /\ w.cell? ⟨b, q + 6, none⟩ = some (.slice A l c) := by
 obtain ⟨k, nm, xk, xn, xs, KA, kl, kc, A, l, c, rfl⟩ := ht.form
 obtain ⟨k', nm', x', kv', cv', e, c0, c1, c2, c3, c4, c5, c6⟩ := h
 injection e with e
 simp at e
 obtain ⟨rfl, rfl, rfl, rfl, rfl, rfl, rfl⟩ := e
 exact ⟨k, nm, _, _, _, KA, kl, kc, A, l, c, rfl, c0, c1, c2, c3, c4, c5, c6⟩
theorem Md (ts : List Tr) (A B : Option Addr) (ca cb : Nat) (S S' : Nat -> Prop) (w : World) (hA : Ao.TsIn w S A 0 ts) (hB : Ao.TsIn w S' B 0 ts) (hl : ts.length <= 1000000) (hsm : Sm.SmTs 1000000 ts) (hsame : ∀ i, i < ts.length -> Nn (ts.getD i CL)) :
  Calls Tryz.prog 32 #[.slice A ts.length ca, .slice B ts.length cb, .func (.func 17) #[] #[]] w fun e w' => e = .returned (.bool true) /\ Below w.heap.size w w' := by
 have hK : ∀ k, k < ts.length -> ∃ (a o b p : Nat) (tv uv : Value), A = some ⟨a, o, none⟩ /\ B = some ⟨b, p, none⟩ /\ (∃ (kd : Int) (nm : ByteArray) (xk xn : Int) (xs : ByteArray) (KA : Option Addr) (kl kc : Nat) (A : Option Addr) (l c : Nat), tv = .agg #[.int .i64 kd, .string nm, .int .i64 xk, .int .i64 xn, .string xs, .slice KA kl kc, .slice A l c] /\ w.cell? ⟨a, o + k * 7, none⟩ = some (.int .i64 kd) /\ w.cell? ⟨a, o + k * 7 + 1, none⟩ = some (.string nm) /\ w.cell? ⟨a, o + k * 7 + 2, none⟩ = some (.int .i64 xk) /\ w.cell? ⟨a, o + k * 7 + 3, none⟩ = some (.int .i64 xn) /\ w.cell? ⟨a, o + k * 7 + 4, none⟩ = some (.string xs) /\ w.cell? ⟨a, o + k * 7 + 5, none⟩ = some (.slice KA kl kc) /\ w.cell? ⟨a, o + k * 7 + 6, none⟩ = some (.slice A l c)) /\ (∃ (kd : Int) (nm : ByteArray) (xk xn : Int) (xs : ByteArray) (KA : Option Addr) (kl kc : Nat) (A : Option Addr) (l c : Nat), uv = .agg #[.int .i64 kd, .string nm, .int .i64 xk, .int .i64 xn, .string xs, .slice KA kl kc, .slice A l c] /\ w.cell? ⟨b, p + k * 7, none⟩ = some (.int .i64 kd) /\ w.cell? ⟨b, p + k * 7 + 1, none⟩ = some (.string nm) /\ w.cell? ⟨b, p + k * 7 + 2, none⟩ = some (.int .i64 xk) /\ w.cell? ⟨b, p + k * 7 + 3, none⟩ = some (.int .i64 xn) /\ w.cell? ⟨b, p + k * 7 + 4, none⟩ = some (.string xs) /\ w.cell? ⟨b, p + k * 7 + 5, none⟩ = some (.slice KA kl kc) /\ w.cell? ⟨b, p + k * 7 + 6, none⟩ = some (.slice A l c)) ∧
   ∀ W, Below w.heap.size w W -> Calls Tryz.prog 17 #[tv, uv] W fun e w' => e = .returned (.bool true) /\ Below W.heap.size W w' := fun k hk => by
  obtain ⟨a, o, tv, e1, h1, t1⟩ := I4 ts 0 k hk hA
  obtain ⟨b, p, uv, e2, h2, t2⟩ := I4 ts 0 k hk hB
  rw [Nat.zero_add] at h1 h2
  exact ⟨a, o, b, p, tv, uv, e1, e2, h1.form t1, h2.form t2, fun W hW => hsame k hk tv uv S S' W (t1.below hW) (t2.below hW) (Lj ts k hk hsm)⟩
 obtain ⟨n, hn⟩ : ∃ n, ts.length = n := ⟨_, rfl⟩
 rw [hn] at hK hl |-
 clear hA hB hsm hsame hn
 go_enter Tryz.func32, Tryz.ntmps32
 go_wp2
 go_loopw [17] (fun i wr => Hid (Below w.heap.size w wr) /\ ∃ k : Nat, k <= n /\ i = .int .i64 k) (fun i _ => n - (intOf i).toNat)
 case atStart => exact ⟨hid (Bq _ _), 0, by omega, rfl⟩
 case round =>
  obtain ⟨HB, k, hk, rfl⟩ := hrel
  by_cases hlt : k < n
  ·obtain ⟨a, o, b, p, tv, uv, rfl, rfl, h1, h2, hS⟩ := hK k hlt
   obtain ⟨k1, n1, y1, z1, s1, KA1, kl1, kc1, A1, l1, c1, rfl, a0, a1, a2, a3, a4, a5, a6⟩ := h1
   obtain ⟨k2, n2, y2, z2, s2, KA2, kl2, kc2, A2, l2, c2, rfl, b0, b1, b2, b3, b4, b5, b6⟩ := h2
   replace a0 := Ab a0 HB.out
   replace a1 := Ab a1 HB.out
   replace a2 := Ab a2 HB.out
   replace a3 := Ab a3 HB.out
   replace a4 := Ab a4 HB.out
   replace a5 := Ab a5 HB.out
   replace a6 := Ab a6 HB.out
   replace b0 := Ab b0 HB.out
   replace b1 := Ab b1 HB.out
   replace b2 := Ab b2 HB.out
   replace b3 := Ab b3 HB.out
   replace b4 := Ab b4 HB.out
   replace b5 := Ab b5 HB.out
   replace b6 := Ab b6 HB.out
   have hki : (k : Int) < (n : Int) := by omega
   clear hK
   have hb2 : Below wr.heap.size wr ((wr.alloc (.cells #[.int .i64 k1, .string n1, .int .i64 y1, .int .i64 z1, .string s1, .slice KA1 kl1 kc1, .slice A1 l1 c1] 30)).alloc (.cells #[.int .i64 k2, .string n2, .int .i64 y2, .int .i64 z2, .string s2, .slice KA2 kl2 kc2, .slice A2 l2 c2] 30)) := ((Bq _ wr).alloc Nr _).alloc (by simp) _
   have hq1 := (Bq wr.heap.size wr).alloc Nr (.cells #[.int .i64 k1, .string n1, .int .i64 y1, .int .i64 z1, .string s1, .slice KA1 kl1 kc1, .slice A1 l1 c1] 30)
   have hD1 := IS wr (.int .i64 k1) (.string n1) (.int .i64 y1) (.int .i64 z1) (.string s1) (.slice KA1 kl1 kc1) (.slice A1 l1 c1) 30
   have hSw := hS _ (HB.out.trans (hb2.mono HB.out.size))
   replace b0 := Ab b0 hq1
   replace b1 := Ab b1 hq1
   replace b2 := Ab b2 hq1
   replace b3 := Ab b3 hq1
   replace b4 := Ab b4 hq1
   replace b5 := Ab b5 hq1
   replace b6 := Ab b6 hq1
   have HB2 := hid (HB.out.trans (hb2.mono HB.out.size))
   clear hS hb2 hq1 hD1
   go_wp2_with fail
   refine hSw.mono ?_
   rintro e w3 ⟨rfl, hb3⟩
   have HB3 := hid (HB2.out.trans (hb3.mono HB2.out.size))
   clear hSw hb3
   go_wp2
   go_roundw
   case rel => exact ⟨HB3, k + 1, by omega, by go_num⟩
   case measure => simp [intOf]; omega
  ·have hki : ¬ (k : Int) < (n : Int) := by omega
   go_wp2
   go_ret
   exact ⟨rfl, HB.out⟩
theorem Ql (k : Int) (nm : ByteArray) (x : Sc) (ks : List Sc) (ts : List Tr) (hkids : ∀ i, i < ts.length -> Nn (ts.getD i CL)) : Nn (.mk k nm x ks ts) := by
 intro tv uv S S' w h1 h2 hsm
 unfold Ao at h1 h2
 unfold Sm at hsm
 obtain ⟨hks, hts, hsm⟩ := hsm
 obtain ⟨kv, A, ca, rfl, hk1, _, ht1⟩ := h1
 obtain ⟨kv2, B, cb, rfl, hk2, _, ht2⟩ := h2
 obtain ⟨KA, kc, rfl, _⟩ := id hk1
 obtain ⟨KB, kc2, rfl, _⟩ := id hk2
 obtain ⟨xk, xn, xs⟩ := x
 dsimp only
 have heq : ∀ W, (binOp .eql 26 (.agg #[.int .i64 xk, .int .i64 xn, .string xs]) (.agg #[.int .i64 xk, .int .i64 xn, .string xs])).run Tryz.prog W = .ok (.bool true) W := fun W => by
  rw [U8]; simp
 have hE := fun W (hW : Below w.heap.size w W) => Lx (.slice KA ks.length kc) (.slice KB ks.length kc2) ks ks W (hk1.below hW) (hk2.below hW) hks hks
 have hF := fun W (hW : Below w.heap.size w W) => Md ts A B ca cb S S' W (Ir (.of_below hW) A 0 ts ht1) (Ir (.of_below hW) B 0 ts ht2) hts hsm hkids
 simp only [decide_true] at hE
 obtain ⟨nk, hnk⟩ : ∃ n, ks.length = n := ⟨_, rfl⟩
 obtain ⟨nt, hnt⟩ : ∃ n, ts.length = n := ⟨_, rfl⟩
 rw [hnk] at hE |-
 rw [hnt] at hF |-
 have hb0 : Below w.heap.size w ((w.alloc (.cells #[.int .i64 k, .string nm, .int .i64 xk, .int .i64 xn, .string xs, .slice KA nk kc, .slice A nt ca] 30)).alloc (.cells #[.int .i64 k, .string nm, .int .i64 xk, .int .i64 xn, .string xs, .slice KB nk kc2, .slice B nt cb] 30)) := ((Bq _ w).alloc Nr _).alloc (by simp) _
 have hN1 : ((w.alloc (.cells #[.int .i64 k, .string nm, .int .i64 xk, .int .i64 xn, .string xs, .slice KA nk kc, .slice A nt ca] 30)).alloc (.cells #[.int .i64 k, .string nm, .int .i64 xk, .int .i64 xn, .string xs, .slice KB nk kc2, .slice B nt cb] 30)).heap[w.heap.size]? = some (.cells #[.int .i64 k, .string nm, .int .i64 xk, .int .i64 xn, .string xs, .slice KA nk kc, .slice A nt ca] 30) :=
  (Below.heap_alloc _ _ _ (by simp)).trans (Wn w _)
 have hN2 := Wn (w.alloc (.cells #[.int .i64 k, .string nm, .int .i64 xk, .int .i64 xn, .string xs, .slice KA nk kc, .slice A nt ca] 30)) (.cells #[.int .i64 k, .string nm, .int .i64 xk, .int .i64 xn, .string xs, .slice KB nk kc2, .slice B nt cb] 30)
 rw [World.size_alloc] at hN2
 have hE0 := hE _ hb0
 obtain ⟨x0, x1, x2, x3, x4, x5, x6, _, _, _, _, _, _, _⟩ := Ay hN1
 obtain ⟨y0, y1, y2, y3, y4, y5, y6, _, _, _, _, _, _, _⟩ := Ay hN2
 have HB := hid hb0
 clear hk1 hk2 ht1 ht2 hE hkids hsm hnk hnt hb0
 go_enter Tryz.func17, Tryz.ntmps17
 go_wp2_with fail
 refine hE0.mono ?_
 rintro e w3 ⟨rfl, hb3⟩
 have hM1 := Aa hN1 hb3
 have hM2 := Aa hN2 hb3
 have hb4 := HB.out.trans (hb3.mono HB.out.size)
 have hF0 := hF _ hb4
 have HB4 := hid hb4
 clear hE0 hN1 hN2 hF x0 x1 x2 x3 x4 x5 x6 y0 y1 y2 y3 y4 y5 y6 hb3 hb4
 obtain ⟨x0, x1, x2, x3, x4, x5, x6, _, _, _, _, _, _, _⟩ := Ay hM1
 obtain ⟨y0, y1, y2, y3, y4, y5, y6, _, _, _, _, _, _, _⟩ := Ay hM2
 go_wp2_with fail
 refine hF0.mono ?_
 rintro e w5 ⟨rfl, hb5⟩
 have HB5 := hid (HB4.out.trans (hb5.mono HB4.out.size))
 clear hF0 hM1 hM2 x0 x1 x2 x3 x4 x5 x6 y0 y1 y2 y3 y4 y5 y6 hb5
 go_wp2
 go_ret
 exact ⟨rfl, HB5.out⟩
mutual
theorem OK : ∀ t : Tr, Nn t
 | .mk k nm x ks ts => Ql k nm x ks ts (Me ts)
theorem Me : ∀ (ts : List Tr) (i : Nat), i < ts.length -> Nn (ts.getD i CL)
 | [], i, h => by simp at h
 | t :: r, 0, _ => OK t
 | t :: r, i + 1, h => Me r i (by simpa using h)
end
theorem Vy (k k' : Int) (nm nm' : ByteArray) (xk xn yk yn : Int) (xs ys : ByteArray) (KA KB : Option Addr) (kl kc kl' kc' : Nat) (A B : Option Addr) (l c l' c' : Nat) (w : World) (hk : k ≠ k') :
  Calls Tryz.prog 17 #[.agg #[.int .i64 k, .string nm, .int .i64 xk, .int .i64 xn, .string xs, .slice KA kl kc, .slice A l c], .agg #[.int .i64 k', .string nm', .int .i64 yk, .int .i64 yn, .string ys, .slice KB kl' kc', .slice B l' c']] w fun e w' => e = .returned (.bool false) /\ Below w.heap.size w w' := by
 have hkk : (k == k') = false := by rw [beq_eq_false_iff_ne]; exact hk
 have hN1 : ((w.alloc (.cells #[.int .i64 k, .string nm, .int .i64 xk, .int .i64 xn, .string xs, .slice KA kl kc, .slice A l c] 30)).alloc (.cells #[.int .i64 k', .string nm', .int .i64 yk, .int .i64 yn, .string ys, .slice KB kl' kc', .slice B l' c'] 30)).heap[w.heap.size]? = some (.cells #[.int .i64 k, .string nm, .int .i64 xk, .int .i64 xn, .string xs, .slice KA kl kc, .slice A l c] 30) :=
  (Below.heap_alloc _ _ _ (by simp)).trans (Wn w _)
 have hN2 := Wn (w.alloc (.cells #[.int .i64 k, .string nm, .int .i64 xk, .int .i64 xn, .string xs, .slice KA kl kc, .slice A l c] 30)) (.cells #[.int .i64 k', .string nm', .int .i64 yk, .int .i64 yn, .string ys, .slice KB kl' kc', .slice B l' c'] 30)
 rw [World.size_alloc] at hN2
 have x0 := (Ay hN1).1
 have y0 := (Ay hN2).1
 clear hN1 hN2
 go_enter Tryz.func17, Tryz.ntmps17
 go_wp2
 go_ret
 exact ⟨rfl, ((Bq _ w).alloc Nr _).alloc (by simp) _⟩
attribute [local go_sem ↓] Go.wp_at_zero Go.wp_at_succ
theorem Ff (M : Nat) : Sm M CL := by unfold CL Sm Sm.SmTs; exact ⟨Nat.zero_le _, Nat.zero_le _, trivial⟩
theorem Jz {M : Nat} {t : Tr} (h : Sm M t) (s : List UInt8) : Sm M (t.named s) := by
 cases t
 unfold Tr.named
 unfold Sm at h |-
 exact h
theorem Uq (M : Nat) : ∀ N, N <= M -> (∀ p v, p.length <= N -> PV p v -> Sm M v) /\ (∀ p ts, p.length <= N -> PI p ts -> ts.length <= p.length /\ Sm.SmTs M ts) ∧
  (∀ p ks ts, p.length <= N -> PD p ks ts -> ks.length <= p.length /\ ts.length <= p.length /\ Sm.SmTs M ts) /\ (∀ p x v, p.length <= N -> PP p x v -> Sm M v)
 | 0, _ => ⟨fun p v hp h => by
   have h1 := (Di h).1
   have : p = [] := List.eq_nil_of_length_eq_zero (by omega)
   exact absurd this h1, fun p ts hp h => by
   have h1 := RL h
   have : p = [] := List.eq_nil_of_length_eq_zero (by omega)
   exact absurd this h1, fun p ks ts hp h => by
   have h1 := QO h
   have : p = [] := List.eq_nil_of_length_eq_zero (by omega)
   exact absurd this h1, fun p x v hp h => by
   have h1 := QU h
   have : p = [] := List.eq_nil_of_length_eq_zero (by omega)
   exact absurd this h1⟩
 | N + 1, hN => by
  obtain ⟨hV, hI, hD, hP⟩ := Uq M N (by omega)
  have V : ∀ p v, p.length <= N + 1 -> PV p v -> Sm M v := fun p v hp h => by
   cases h with
   | key t h => unfold EO Sm Sm.SmTs; exact ⟨Nat.zero_le _, Nat.zero_le _, trivial⟩
   | ali t h => unfold FO Sm Sm.SmTs; exact ⟨Nat.zero_le _, Nat.zero_le _, trivial⟩
   | nam t p v h _ _ hp' => exact Jz (hV p v (by simp at hp; omega) hp') _
   | lst t p ts h hp' =>
    obtain ⟨h1, h2⟩ := hI p ts (by simp at hp; omega) hp'
    unfold BA Sm
    exact ⟨Nat.zero_le _, by simp at hp; omega, h2⟩
   | dic t p ks ts h hp' =>
    obtain ⟨h1, h2, h3⟩ := hD p ks ts (by simp at hp; omega) hp'
    unfold BJ Sm
    exact ⟨by simp at hp; omega, by simp at hp; omega, h3⟩
  have P : ∀ p x v, p.length <= N + 1 -> PP p x v -> Sm M v := fun p x v hp h => by
   cases h with
   | none k c h hc => exact Ff M
   | some k c p v h hc hp' => exact hV p v (by simp at hp; omega) hp'
  refine ⟨V, fun p ts hp h => ?_, fun p ks ts hp h => ?_, P⟩
  ·cases h with
   | nil c h => unfold Sm.SmTs; exact ⟨by simp, trivial⟩
   | last p v c hp' h =>
    have := V p v (by simp at hp; omega) hp'
    unfold Sm.SmTs Sm.SmTs
    exact ⟨by simp, this, trivial⟩
   | cons p v m q ts hp' h hq =>
    have h0 := V p v (by simp at hp; omega) hp'
    obtain ⟨h1, h2⟩ := hI q ts (by have := List.length_pos_iff.2 (Di hp').1; simp at hp; omega) hq
    rw [Sm.SmTs]
    exact ⟨by simp; omega, h0, h2⟩
  ·cases h with
   | nil c h => unfold Sm.SmTs; exact ⟨by simp, by simp, trivial⟩
   | last p x v c hp' h =>
    have := P p x v (by simp at hp; omega) hp'
    unfold Sm.SmTs Sm.SmTs
    exact ⟨by simp, by simp, this, trivial⟩
   | cons p x v m q ks ts hp' h hq =>
    have h0 := P p x v (by simp at hp; omega) hp'
    obtain ⟨h1, h2, h3⟩ := hD q ks ts (by have := List.length_pos_iff.2 (QU hp'); simp at hp; omega) hq
    rw [Sm.SmTs]
    exact ⟨by simp; omega, by simp; omega, h0, h3⟩
theorem Us {M : Nat} {p : List Pc} {v : Tr} (h : PV p v) (hp : p.length <= M) : Sm M v := (Uq M p.length hp).1 p v Nr h
def VX (t : Tk) : AV := ⟨t.kind, t.str, t.at_⟩
theorem DX.toIn {w : World} {v : Value} {ts : List Tk} (h : DX w v ts) : AO w v (ts.map VX) := by
 obtain ⟨A, cap, hv, hc⟩ := h
 refine ⟨A, cap, by rw [List.length_map]; exact hv, fun k hk => ?_⟩
 rw [List.length_map] at hk
 obtain ⟨b, o, ha, hlt, h0, h1, h2⟩ := hc k hk
 have e : (ts.map VX).getD k ⟨0, [], 0⟩ = VX (ts.getD k ⟨0, [], 0⟩) := by simp [List.getD, List.getElem?_eq_getElem hk]
 rw [e]
 exact ⟨b, o, ha, hlt, h0, h1, h2⟩
end
end Go.Proofs.YtaogfdffgdglkaaGreatDoor
