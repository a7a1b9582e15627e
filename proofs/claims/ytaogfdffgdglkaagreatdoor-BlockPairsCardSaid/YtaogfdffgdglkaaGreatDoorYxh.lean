/- What is proved: a part of the walk of the program and of its plain laws; no condition beside those that each theorem names. -/
import Derived.Test.YtaogfdffgdglkaaGreatDoorYxg
import Derived.Test.YtaogfdffgdglkaaGreatDoorYx
import Derived.Test.YtaogfdffgdglkaaGreatDoorYv
import Derived.Test.YtaogfdffgdglkaaGreatDoorYa
namespace Go.Proofs.YtaogfdffgdglkaaGreatDoor
open Go Go.RowKit Go.Lib
set_option linter.unusedSimpArgs false
set_option linter.unusedVariables false
section
set_option maxRecDepth 100000
set_option maxHeartbeats 4000000
attribute [local go_sem] Oper.semAt_some CA B0
def IT (k : Nat) (r : List UInt8) : Sc := ⟨k, (r.length : Int) - (Dx r).length, ⟨(FK (Dx r)).toArray⟩⟩
def CO : List (Nat × List UInt8) -> List Sc -> List Sc × Int × Int
 | [], acc => (acc, 0, 0)
 | (k, r) :: rs, acc => if Bj r ≠ 0 then ([], k, Bj r) else CO rs (if GR r then acc ++ [IT k r] else acc)
def EY (s : List UInt8) : List Sc × Int × Int := if 8000 < s.length then ([], 0, 20) else if validD s then CO (Dt 1 (CS s)) [] else ([], 0, 40)
def BU (w : World) (B : Nat) (v : Value) (ts : List Sc) : Prop := w.ownsRow B 40 3 v ts.length (ts.flatMap A6)
theorem Lc : (Tryz.prog.info? 40).map (fun i => (i.zero, i.size, i.bytes)) = some (some (.agg #[.int .i64 0, .int .i64 0, .string ⟨#[]⟩]), 3, 32) := by kernel_rfl
theorem BU.sl {w : World} {B : Nat} {v : Value} {ts : List Sc} (h : BU w B v ts) : Cy w v ts := by
 rcases h.2 with ⟨hv, h0⟩ | ⟨g, cap, cur, hv, hb, hg, hnc, hcm, hsz, htake⟩
 ·have : ts = [] := List.eq_nil_of_length_eq_zero h0
  subst this
  rw [hv]; exact Cy.nil w
 ·refine ⟨some ⟨g, 0, none⟩, cap, hv, fun k hk => ⟨g, 0, rfl, (Gl hg), ?_⟩⟩
  obtain ⟨f0, f1, f2⟩ := Jg ts k hk
  have hc : ∀ j u, (ts.flatMap A6)[j]? = some u -> w.cell? ⟨g, j, none⟩ = some u := fun j u hj => by
   rw [cell_of_row w g j cur 40 (0, 0) hg]
   rw [<- htake, List.getElem?_take] at hj
   split at hj
   ·rw [Array.getElem?_toList] at hj; exact hj
   ·cases hj
  rw [Nat.zero_add]
  exact ⟨hc _ _ f0, hc _ _ f1, hc _ _ f2⟩
theorem BU.turn {X Y : World} {C : Nat -> Prop} {m B : Nat} {v : Value} {ts : List Sc} (h : BU X B v ts) (ht : Af C m X Y) (hC : ∀ k, C k -> k < B) : BU Y B v ts := by
 refine ⟨h.1, ?_⟩
 rcases h.2 with h0 | ⟨g, cap, cur, hv, hb, hg, hr⟩
 ·exact .inl h0
 ·exact .inr ⟨g, cap, cur, hv, hb, ht.heap hg (fun e => by have := hC g e; omega) rfl, hr⟩
def L7 (r : List Sc × Int × Int) (w : World) (e : Ending) (w' : World) : Prop := ∃ v, e = .returned (.tuple #[v, .int .i64 r.2.1, .int .i64 r.2.2]) /\ Cy w' v r.1 /\ Below w.heap.size w w'
theorem QX (w : World) : Calls Tryz.prog 265 #[.agg #[]] w fun e w' => e = .returned (.int .i64 80) /\ Below w.heap.size w w' := by
 go_enter Tryz.func265, Tryz.ntmps265
 go_wp2
 go_ret
 exact ⟨rfl, (Bq _ w).alloc Nr _⟩
theorem R7 (w : World) : Calls Tryz.prog 266 #[.agg #[]] w fun e w' => e = .returned (.int .i64 81) /\ Below w.heap.size w w' := by
 go_enter Tryz.func266, Tryz.ntmps266
 go_wp2
 go_ret
 exact ⟨rfl, (Bq _ w).alloc Nr _⟩
theorem Oa (s : ByteArray) (w : World) (h8 : 8000 < s.size) :
  Calls Tryz.prog 15 #[.string s] w (L7 ([], 0, 20) w) := by
 have h8i : (8000 : Int) < (s.size : Int) := by omega
 refine (callsIn_wide (n := 0)).1 ?_
 refine callsIn_of_wp_marks Tryz.func15 rfl trivial ?_ rfl
 refine wpIn_wide.2 ?_
 simp only [Tryz.ntmps15, List.size_toArray, List.length_cons, List.length_nil, Nat.reduceAdd, Nat.reduceSub, Array.replicate_succ, Array.replicate_zero, List.push_toArray, List.append_toArray, List.nil_append, List.cons_append]
 obtain ⟨N, hN⟩ : ∃ N, w.heap.size = N := ⟨_, rfl⟩
 have hb0 : Below N w (((w.alloc (.cells #[.slice none 0 0] 22)).alloc (.cells #[.int .i64 0] 3)).alloc (.cells #[.int .i64 0] 31)) := (((Bq N w).alloc (by omega) _).alloc (by simp; omega) _).alloc (by simp; omega) _
 clear h8
 subst hN
 go_wp2
 refine ⟨.tuple #[.slice none 0 0, .int .i64 0, .int .i64 20], by simp [results, Tryz.f15, go_sem], ?_⟩
 refine ⟨_, rfl, Cy.nil _, ?_⟩
 first | exact hb0 | exact (((Bq _ w).alloc Nr _).alloc (by simp) _).alloc (by simp; omega) _
theorem PO (s : ByteArray) (w : World) (h8 : ¬ 8000 < s.size) (hv : validD s.data.toList = false) (hT : Bz w) :
  Calls Tryz.prog 15 #[.string s] w (L7 ([], 0, 40) w) := by
 have h8i : ¬ (8000 : Int) < (s.size : Int) := by omega
 have hR := fun wx hx => Cg s wx (by omega) hx
 rw [hv] at hR
 clear hv
 refine (callsIn_wide (n := 0)).1 ?_
 refine callsIn_of_wp_marks Tryz.func15 rfl trivial ?_ rfl
 refine wpIn_wide.2 ?_
 simp only [Tryz.ntmps15, List.size_toArray, List.length_cons, List.length_nil, Nat.reduceAdd, Nat.reduceSub, Array.replicate_succ, Array.replicate_zero, List.push_toArray, List.append_toArray, List.nil_append, List.cons_append]
 obtain ⟨N, hN⟩ : ∃ N, w.heap.size = N := ⟨_, rfl⟩
 have hb0 : Below N w (((w.alloc (.cells #[.slice none 0 0] 22)).alloc (.cells #[.int .i64 0] 3)).alloc (.cells #[.int .i64 0] 31)) := (((Bq N w).alloc (by omega) _).alloc (by simp; omega) _).alloc (by simp; omega) _
 go_wp2_with fail
 refine (hR _ (hT.below (hN ▸ hb0))).mono ?_
 rintro e w1 ⟨rfl, hb1⟩
 obtain ⟨b0, b1, b2⟩ := F1 w 22 3 31 (.slice none 0 0) (.int .i64 0) (.int .i64 0)
 rw [hN] at b0 b1 b2
 replace b0 := Ac b0 hb1
 replace b1 := Ac b1 hb1
 replace b2 := Ac b2 hb1
 have hb2 := hb0.trans (hb1.mono (by have := hb0.size; omega))
 have c0 := b0.cell; have f0 := b0.frozen
 have c1 := b1.cell; have f1 := b1.frozen
 have c2 := b2.cell; have f2 := b2.frozen
 clear h8 hR hb1 hb0
 go_wp2
 obtain ⟨e1, e2, e3, hb3⟩ := NN hb2 b0 b1 b2 (by omega) (.slice none 0 0) (.int .i64 0) (.int .i64 40)
 refine ⟨.tuple #[.slice none 0 0, .int .i64 0, .int .i64 40], by simp [results, Tryz.f15, go_sem, e1, e2, e3], ?_⟩
 exact ⟨_, rfl, Cy.nil _, by rw [hN]; exact hb3⟩
theorem Mk : ∀ (f : Nat) (s : List UInt8), (Fb f s).length <= s.length /\ ∀ r ∈ Fb f s, r.length <= s.length
 | 0, s => ⟨by simp [Fb], by simp [Fb]⟩
 | f + 1, s => by
  unfold Fb
  split
  ·exact ⟨by simp, by simp⟩
  ·rename_i h
   obtain ⟨h1, h2⟩ := Mk f (Dd s)
   have h3 := FG h
   refine ⟨by simp only [List.length_cons]; omega, fun r hr => ?_⟩
   rcases List.mem_cons.1 hr with rfl | hr
   ·exact QQ s
   ·have := h2 r hr; omega
theorem Ko : ∀ (k : Nat) (l : List (List UInt8)), (Dt k l).length = l.length
 | _, [] => rfl
 | k, _ :: r => by simp [Dt, Ko (k + 1) r]
theorem JM : ∀ (k : Nat) (l : List (List UInt8)) (x : Nat × List UInt8), x ∈ Dt k l -> x.2 ∈ l /\ k <= x.1 /\ x.1 < k + l.length
 | _, [], x, h => by cases h
 | k, r :: rs, x, h => by
  rcases List.mem_cons.1 h with rfl | h
  ·exact ⟨by simp, by simp, by simp⟩
  ·obtain ⟨h1, h2, h3⟩ := JM (k + 1) rs x h
   exact ⟨List.mem_cons_of_mem _ h1, by omega, by simp only [List.length_cons]; omega⟩
theorem S1 {k : Nat} {r : List UInt8} {rs : List (Nat × List UInt8)} {acc : List Sc} (h : Bj r = 0) : CO ((k, r) :: rs) acc = CO rs (if GR r then acc ++ [IT k r] else acc) := by
 rw [CO, if_neg (by simp [h])]
theorem Q2 {k : Nat} {r : List UInt8} {rs : List (Nat × List UInt8)} {acc : List Sc} (h : Bj r ≠ 0) : CO ((k, r) :: rs) acc = (([] : List Sc), (k : Int), Bj r) := by
 rw [CO, if_pos h]
theorem JH (r : List UInt8) : Bj r = 0 \/ Bj r = 80 \/ Bj r = 81 := by
 unfold Bj
 split
 ·split
  ·exact .inr (.inr rfl)
  ·exact .inl rfl
 ·exact .inr (.inl rfl)
theorem BU.row {w : World} {B : Nat} {v : Value} {ts : List Sc} (h : BU w B v ts) {k : Nat} (hk : v.ownBlock = some k) : B <= k /\ ∃ cur, w.heap[k]? = some (.cells cur 40 (0, 0)) := by
 rcases h.2 with ⟨rfl, _⟩ | ⟨g, cap, cur, rfl, hb, hg, _⟩
 ·simp [Value.ownBlock] at hk
 ·simp [Value.ownBlock] at hk
  subst hk
  exact ⟨hb, cur, hg⟩
theorem BU.keep {X Y : World} {B : Nat} {v : Value} {ts : List Sc} (h : BU X B v ts) (hk : ∀ (j : Nat) (c : Array Value), B <= j -> X.heap[j]? = some (Obj.cells c 40 (0, 0)) -> Y.heap[j]? = some (Obj.cells c 40 (0, 0))) : BU Y B v ts := by
 refine ⟨h.1, ?_⟩
 rcases h.2 with h0 | ⟨g, cap, cur, hv, hb, hg, hr⟩
 ·exact .inl h0
 ·exact .inr ⟨g, cap, cur, hv, hb, hk g cur hb hg, hr⟩
theorem UD {C : Nat -> Prop} {N M B : Nat} {Wb w5 : World} {v v' : Value} {ts : List Sc} {x : Sc} {o : Obj} (hN : N <= M) (hMB : M < B) (hBz : B <= Wb.heap.size) (hC : ∀ j, C j -> j < B /\ j ≠ M) (h2 : Boxed Wb M 22 v) (h3 : BU Wb B v ts)
  (hown : w5.ownsRow B 40 3 v' (ts.length + 1) (ts.flatMap A6 ++ A6 x)) (hg : (Wb.alloc o).grownBy w5 v.ownBlock) :
  Ag Av C N Wb (w5.setCell ⟨M, 0, none⟩ v') /\ Boxed (w5.setCell ⟨M, 0, none⟩ v') M 22 v' /\ BU (w5.setCell ⟨M, 0, none⟩ v') B v' (ts ++ [x]) /\ w5.cell? ⟨M, 0, none⟩ = some v /\ w5.frozen? ⟨M, 0, none⟩ = false ∧
  (∀ (j : Nat) (ob : Obj), j < B -> j ≠ M -> Wb.heap[j]? = some ob -> (w5.setCell ⟨M, 0, none⟩ v').heap[j]? = some ob) := by
 have hrow : ∀ j (ob : Obj), j < B -> Wb.heap[j]? = some ob -> w5.heap[j]? = some ob := fun j ob hT hj => by
  have hjl : j < Wb.heap.size := (Gl hj)
  refine (hg.block j (by simp; omega) (fun e => ?_)).trans ((Below.heap_alloc Wb o j hjl).trans hj)
  obtain ⟨hb, _⟩ := h3.row e.symm
  omega
 have hM5 : Boxed w5 M 22 v := hrow M _ hMB h2
 refine ⟨?_, hM5.set v', ?_, hM5.cell, hM5.frozen, fun j ob hB hj hh => (Bh w5 ⟨M, 0, none⟩ v' j hj).trans (hrow j ob hB hh)⟩
 ·refine ((Ag.alloc Wb o).trans (Ag.grown hg (fun k hk => ?_))).trans (Ag.setCell w5 ⟨M, 0, none⟩ v' hN (fun h => (hC _ h).2 rfl))
  obtain ⟨hb, cur, hc⟩ := h3.row hk
  have hkl : k < Wb.heap.size := (Gl hc)
  refine ⟨by omega, fun hck => ?_, fun o' ho' => ?_⟩
  ·have := (hC k hck).1; omega
  ·rw [Below.heap_alloc Wb o k hkl, hc] at ho'
   injection ho' with ho'
   rw [<- ho']; rfl
 ·refine ⟨by rw [Hk], ?_⟩
  rcases hown.2 with ⟨_, h0⟩ | ⟨g, cap, cur, hv, hb, hgc, h4, h5, h6, h7⟩
  ·omega
  ·exact .inr ⟨g, cap, cur, by rw [hv]; simp, hb, (Bh w5 ⟨M, 0, none⟩ v' g (fun e => by have e' : g = M := e; omega)).trans hgc, by simpa using h4, h5, h6, by rw [List.flatMap_append, List.length_append]; simpa using h7⟩
theorem Tt (w : World) : (Go.method 489 130 (.agg #[]) "sigillary/lines.why").run Tryz.prog w = .ok (265, .agg #[]) w := by kernel_rfl
theorem Td (w : World) : (Go.method 489 131 (.agg #[]) "sigillary/lines.why").run Tryz.prog w = .ok (266, .agg #[]) w := by kernel_rfl
theorem TV (w : World) : (nilAhead 489 130 (.agg #[]) "sigillary/lines.why").run Tryz.prog w = .ok (some false) w := by kernel_rfl
theorem TQ (w : World) : (nilAhead 489 131 (.agg #[]) "sigillary/lines.why").run Tryz.prog w = .ok (some false) w := by kernel_rfl
theorem OC (s : ByteArray) (w : World) (h8 : ¬ 8000 < s.size) (hv : validD s.data.toList = true) (hT : Bz w) (hLT : Ot w) :
  Calls Tryz.prog 15 #[.string s] w (L7 (CO (Dt 1 (CS s.data.toList)) []) w) := by
 have h8i : ¬ (8000 : Int) < (s.size : Int) := by omega
 have hR := fun wx hx => Cg s wx (by omega) hx
 rw [hv] at hR
 clear hv
 have hit := fun Bs n₀ (hN : w.heap.size <= n₀) (hB : w.heap.size <= Bs) => PF s Bs n₀ w hLT hN hB (by omega)
 obtain ⟨r1, r2⟩ := Mk s.data.toList.length s.data.toList
 have hlen := Ko 1 (CS s.data.toList)
 have hmem := fun x hx => JM 1 (CS s.data.toList) x hx
 have hsz : s.data.toList.length <= 8000 := by rw [<- Lib.size_eq]; omega
 have HXN := hid (show (Dt 1 (CS s.data.toList)).length <= 8000 by rw [hlen]; unfold CS; omega)
 have HXL := hid (show ∀ x ∈ Dt 1 (CS s.data.toList), x.2.length <= 8000 from fun x hx => by have := r2 x.2 (hmem x hx).1; omega)
 clear hlen hmem r1 r2 hsz
 obtain ⟨X, hX⟩ : ∃ X, Dt 1 (CS s.data.toList) = X := ⟨_, rfl⟩
 rw [hX] at hit HXN HXL |-
 have HIT := hid hit
 clear hit hX h8
 refine (callsIn_wide (n := 0)).1 ?_
 refine callsIn_of_wp_marks Tryz.func15 rfl trivial ?_ rfl
 refine wpIn_wide.2 ?_
 simp only [Tryz.ntmps15, List.size_toArray, List.length_cons, List.length_nil, Nat.reduceAdd, Nat.reduceSub, Array.replicate_succ, Array.replicate_zero, List.push_toArray, List.append_toArray, List.nil_append, List.cons_append]
 obtain ⟨N, hN⟩ : ∃ N, w.heap.size = N := ⟨_, rfl⟩
 have hb0 : Below N w (((w.alloc (.cells #[.slice none 0 0] 22)).alloc (.cells #[.int .i64 0] 3)).alloc (.cells #[.int .i64 0] 31)) := (((Bq N w).alloc (by omega) _).alloc (by simp; omega) _).alloc (by simp; omega) _
 go_wp2_with fail
 refine (hR _ (hT.below (hN ▸ hb0))).mono ?_
 rintro e w1 ⟨rfl, hb1⟩
 obtain ⟨b0, b1, b2⟩ := F1 w 22 3 31 (.slice none 0 0) (.int .i64 0) (.int .i64 0)
 rw [hN] at b0 b1 b2
 replace b0 := Ac b0 hb1
 replace b1 := Ac b1 hb1
 replace b2 := Ac b2 hb1
 have hb2 := hb0.trans (hb1.mono (by have := hb0.size; omega))
 clear hb0 hb1 hR
 obtain ⟨M, hM⟩ : ∃ M, w1.heap.size = M := ⟨_, rfl⟩
 have hNM : N + 1 + 1 < M := by rw [<- hM]; exact (Array.getElem?_eq_some_iff.1 (show w1.heap[N + 1 + 1]? = _ from b2)).1
 go_wp2_with fail
 refine (RD s _).mono ?_
 rintro e w3 ⟨rfl, hw3⟩
 have hz2 : (w1.alloc (.cells #[.slice none 0 0] 22)).heap.size = M + 1 := by simp [hM]
 have hBox : Boxed w3 (M + 1) 9 (.string s) := by rw [hw3, <- hz2]; exact Boxed.new _ _ _
 have bo : Boxed w3 M 22 (.slice none 0 0) := by rw [hw3, <- hM]; exact (Boxed.new w1 _ _).alloc _
 replace b0 : Boxed w3 N 22 (.slice none 0 0) := by rw [hw3]; exact (b0.alloc _).alloc _
 replace b1 : Boxed w3 (N + 1) 3 (.int .i64 0) := by rw [hw3]; exact (b1.alloc _).alloc _
 replace b2 : Boxed w3 (N + 1 + 1) 31 (.int .i64 0) := by rw [hw3]; exact (b2.alloc _).alloc _
 have hb4 : Below N w w3 := by rw [hw3]; exact (hb2.alloc (by omega) _).alloc (by simp; omega) _
 have hz3 : w3.heap.size = M + 1 + 1 := by rw [hw3]; simp [hM]
 rw [hz2]
 clear hw3 hb2 hz2 hM
 go_wp2
 refine (wpIn_wide (n := 0)).1 ?_
 refine Dm (gf := 56) (lb := #[.pointer (some ⟨M + 1, 0, none⟩)]) rfl (enters_of Tryz.func56 (by kernel_rfl) rfl) (HIT.out (M + 1) N (by omega) (by omega))
  (fun Y hY => ⟨Ac hBox hY, hN ▸ hb4.trans (hY.mono (by have := hb4.size; omega))⟩) (fun k hk => by omega) (by omega) (fun x => rfl)
  (fun pre W => ∃ v ts, Hid (ts.length <= pre.length /\ ∀ rest, X = pre ++ rest -> CO X [] = CO rest ts) /\ Boxed W M 22 v /\ BU W (M + 1 + 1) v ts /\ Boxed W N 22 (.slice none 0 0) /\ Boxed W (N + 1) 3 (.int .i64 0) /\ Boxed W (N + 1 + 1) 31 (.int .i64 0) /\ Below N w W /\ M + 1 < W.heap.size)
  (fun co pre W => co = .ret /\ ∃ (k : Nat) (e : Int), Hid (CO X [] = ([], (k : Int), e)) /\ Boxed W N 22 (.slice none 0 0) /\ Boxed W (N + 1) 3 (.int .i64 k) /\ Boxed W (N + 1 + 1) 31 (.int .i64 e) /\ Below N w W)
  ?hI ?hIx ⟨.slice none 0 0, [], hid ⟨Nat.le_refl _, fun rest h => by rw [h]; rfl⟩, bo, ⟨rfl, .inl ⟨rfl, rfl⟩⟩, b0, b1, b2, hb4, by omega⟩ ?round ?done ?stop
 case hI =>
  rintro pre A Y ⟨v, ts, h1, h2, h3, h4, h5, h6, h7, h8⟩ ht
  exact ⟨v, ts, h1, Ah h2 ht (by omega), h3.turn ht (fun k hk => by omega), Ah h4 ht (by omega), Ah h5 ht (by omega), Ah h6 ht (by omega), ht.below h7 (fun k hk => by omega) (by omega) (by omega), Nat.lt_of_lt_of_le h8 ht.size⟩
 case hIx =>
  rintro co pre A Y ⟨h1, p, e, h2, h3, h4, h5, h6⟩ ht
  exact ⟨h1, p, e, h2, Ah h3 ht (by omega), Ah h4 ht (by omega), Ah h5 ht (by omega), ht.below h6 (fun k hk => by omega) (by omega) (by omega)⟩
 case round =>
  rintro l pre ⟨k, r⟩ W hl ⟨v, ts, h1, h2, h3, h4, h5, h6, h7, h8⟩ hpre
  have hr8 := HXL.out (k, r) (hpre.subset (by simp))
  have hpl : pre.length + 1 <= 8000 := by have e1 := hpre.length_le; have e2 := HXN.out; simp at e1; omega
  have HPR := hid (show ∃ rest, X = pre ++ ((k, r) :: rest) /\ X = (pre ++ [(k, r)]) ++ rest by obtain ⟨rest, hrest⟩ := hpre; exact ⟨rest, by rw [<- hrest]; simp, hrest.symm⟩)
  clear hpre
  unfold S0
  dsimp only at hr8
  have hr8' : (⟨r.toArray⟩ : ByteArray).size <= 8000 := by rw [Lib.size_eq]; exact hr8
  have hdt : (⟨r.toArray⟩ : ByteArray).data.toList = r := rfl
  obtain ⟨rb, hrb⟩ : ∃ z : ByteArray, (⟨r.toArray⟩ : ByteArray) = z := ⟨_, rfl⟩
  rw [hrb] at hr8' hdt
  simp only [hrb]
  gi_wp2
  refine ⟨Ag.alloc W _, fun Wb ht _ => ?_⟩
  have hta : Af (fun k => k = M + 1) w3.heap.size W Wb := (Af.alloc W _).trans ht
  have hRB : Boxed Wb W.heap.size 79 (.string rb) := ht.heap (Wn W _) (fun hc => by omega) rfl
  replace h2 := Ah h2 hta (by omega)
  replace h3 := h3.turn hta (fun k hk => by omega)
  replace h4 := Ah h4 hta (by omega)
  replace h5 := Ah h5 hta (by omega)
  replace h6 := Ah h6 hta (by omega)
  replace h7 := hta.below h7 (fun k hk => by omega) (by omega) (by omega)
  have hWz : W.heap.size <= Wb.heap.size := hta.size
  replace h8 := Nat.lt_of_lt_of_le h8 hta.size
  have hRl : W.heap.size < Wb.heap.size := (Array.getElem?_eq_some_iff.1 (show Wb.heap[W.heap.size]? = _ from hRB)).1
  have hkp : Ag Av (fun k => k = M + 1) N Wb Wb := Ag.refl _ _ _ _
  obtain ⟨Rn, hRn⟩ : ∃ z, W.heap.size = z := ⟨_, rfl⟩
  rw [hRn] at hRB hWz hRl |-
  clear ht hta hRn
  have hTR := CallsIn.inRound l ((callsIn_wide (n := 0)).2 (Nc rb Wb (by omega)))
  rw [hdt] at hTR
  have cR := hRB.cell
  gi_wp2_with fail
  refine hTR.mono ?_
  rintro e w4 ⟨rfl, hb5⟩
  clear hTR cR
  have hs5 : Wb.heap.size <= w4.heap.size := hb5.size
  have hk5 : Ag Av (fun k => k = M + 1) N Wb w4 := Ag.of_below hb5
  replace h2 := Ac h2 hb5
  replace h3 : BU w4 (M + 1 + 1) v ts := h3.keep (fun j c hj hh => Aa hh hb5)
  replace h4 := Ac h4 hb5
  replace h5 := Ac h5 hb5
  replace h6 := Ac h6 hb5
  replace h7 := h7.trans (hb5.mono (by omega))
  replace hRB := Ac hRB hb5
  have cR := hRB.cell
  clear hb5 hkp
  by_cases ht0 : Bj r = 0
  ·have HST := hid (show ∀ rest, X = (pre ++ [(k, r)]) ++ rest -> CO X [] = CO rest (if GR r then ts ++ [IT k r] else ts) from fun rest h => by
    rw [h1.out.2 ((k, r) :: rest) (by rw [h]; simp), S1 ht0])
   rw [ht0, show VP 0 = .nilIface from rfl]
   have hLN := fun wx => CallsIn.inRound l ((callsIn_wide (n := 0)).2 (Rx rb k wx (by omega)))
   rw [hdt] at hLN
   gi_wp2_with fail
   refine (hLN _).mono ?_
   rintro e w5 ⟨rfl, hb6⟩
   obtain ⟨LN, hLN⟩ : ∃ z, IT k r = z := ⟨_, rfl⟩
   obtain ⟨l0, l1, l2⟩ := LN
   have e0 : (k : Int) = l0 := by unfold IT at hLN; injection hLN
   have e1 : ((rb.size : Int) - (Dx r).length) = l1 := by unfold IT at hLN; injection hLN with _ h _; rw [<- h, <- hdt, Lib.size_eq]
   have e2 : (⟨(FK (Dx r)).toArray⟩ : ByteArray) = l2 := by unfold IT at hLN; injection hLN
   subst e0
   rw [hLN] at HST
   rw [e1, e2]
   have hbl : Below w5.heap.size w5 (w5.alloc (.cells #[.int .i64 k, .int .i64 l1, .string l2] 40)) := (Bq _ _).alloc Nr _
   have hX := Wn w5 (.cells #[.int .i64 k, .int .i64 l1, .string l2] 40)
   have hk7 : Ag Av (fun k => k = M + 1) N Wb (w5.alloc (.cells #[.int .i64 k, .int .i64 l1, .string l2] 40)) := (hk5.trans (Ag.of_below hb6)).trans (Ag.of_below hbl)
   have hs6 : w4.heap.size <= w5.heap.size := hb6.size
   have HC1 := hid (Ac h2 hb6)
   replace h2 := Ac (Ac h2 hb6) hbl
   replace h3 : BU (w5.alloc (.cells #[.int .i64 k, .int .i64 l1, .string l2] 40)) (M + 1 + 1) v ts := h3.keep (fun j c hj hh => Aa (Aa hh hb6) hbl)
   replace h4 := Ac (Ac h4 hb6) hbl
   replace h5 := Ac (Ac h5 hb6) hbl
   replace h6 := Ac (Ac h6 hb6) hbl
   replace h7 := (h7.trans (hb6.mono (by have := h7.size; omega))).trans (hbl.mono (by have := h7.size; omega))
   have HL7 := hid hLN
   have HLT := hid (show ts.length <= 8000 by have := h1.out.1; omega)
   have HTL := hid (show ts.length <= pre.length from h1.out.1)
   clear hb6 hLN hRB cR hk5 hbl hdt e1 e2 h1
   cases hsy : GR r with
   | false =>
    rw [hsy] at HST
    have FIN := hid (show Ag Av (fun k => k = M + 1) N Wb (w5.alloc (.cells #[.int .i64 k, .int .i64 l1, .string l2] 40)) /\ ∃ v ts, Hid (ts.length <= (pre ++ [(k, r)]).length /\ ∀ rest, X = (pre ++ [(k, r)]) ++ rest -> CO X [] = CO rest ts) /\ Boxed (w5.alloc (.cells #[.int .i64 k, .int .i64 l1, .string l2] 40)) M 22 v /\ BU (w5.alloc (.cells #[.int .i64 k, .int .i64 l1, .string l2] 40)) (M + 1 + 1) v ts /\ Boxed (w5.alloc (.cells #[.int .i64 k, .int .i64 l1, .string l2] 40)) N 22 (.slice none 0 0) /\ Boxed (w5.alloc (.cells #[.int .i64 k, .int .i64 l1, .string l2] 40)) (N + 1) 3 (.int .i64 0) /\ Boxed (w5.alloc (.cells #[.int .i64 k, .int .i64 l1, .string l2] 40)) (N + 1 + 1) 31 (.int .i64 0) /\ Below N w (w5.alloc (.cells #[.int .i64 k, .int .i64 l1, .string l2] 40)) /\ M + 1 < (w5.alloc (.cells #[.int .i64 k, .int .i64 l1, .string l2] 40)).heap.size from
     ⟨hk7, v, ts, hid ⟨by have := HTL.out; simp; omega, fun rest h => by rw [HST.out rest h]; rfl⟩, h2, h3, h4, h5, h6, h7, by simp; omega⟩)
    clear hk7 h2 h3 h4 h5 h6 h7 hX HST
    gi_wp2
    exact FIN.out
   | true =>
    rw [hsy] at HST
    obtain ⟨i0, hi, hz0, hz1, hz2⟩ := info_parts Lc
    have HU := hid (show Tryz.prog.underlying 22 = some (.slice 40) by kernel_rfl)
    obtain ⟨t0, t1, t2, _⟩ := Az hX
    have c1 := HC1.out.cell; have f1 := HC1.out.frozen
    have hMl : M < w5.heap.size := by omega
    have hTl : w5.heap.size < (w5.alloc (.cells #[.int .i64 k, .int .i64 l1, .string l2] 40)).heap.size := by simp
    have hown0 : (w5.alloc (.cells #[.int .i64 k, .int .i64 l1, .string l2] 40)).ownsRow (M + 1 + 1) 40 3 v ts.length (ts.flatMap A6) := h3
    gi_wp2_with (first
     | (gi_at_builtin; refine wpListIn_append_own _ rfl _ _ 22 rfl (M + 1 + 1) 40 i0 (.agg #[.int .i64 0, .int .i64 0, .string ⟨#[]⟩]) 3 32 HU.out hi hz0 hz1 hz2 rfl (by decide) _ _ _ rfl (hown0.alloc _) ⟨w5.heap.size + 1, 0, none⟩ 1 1 [.int .i64 k, .int .i64 l1, .string l2] rfl rfl ?c1 ?c2 ?c3 ?c4 ?c5 ?_))
    case c1 =>
     intro j u hj
     match j, hj with
     | 0, hj => simp at hj; subst hj; simp [Addr.add]
     | 1, hj => simp at hj; subst hj; simp [Addr.add]
     | 2, hj => simp at hj; subst hj; simp [Addr.add]
    case c2 => intro u hu; simp at hu; rcases hu with rfl | rfl | rfl <;> rfl
    case c3 => have := HLT.out; unfold maxLen; omega
    case c4 => have := HLT.out; omega
    case c5 => simp; omega
    intro v' w9 hown hgrow _
    obtain ⟨q1, q2, q3, q4, q5, q6⟩ := UD (C := fun k => k = M + 1) (N := N) (M := M) (B := M + 1 + 1) (x := ⟨k, l1, l2⟩) (by omega) (by omega) (by simp; omega) (fun j hj => by omega) h2 h3 hown hgrow
    have FIN := hid (show Ag Av (fun k => k = M + 1) N Wb (w9.setCell ⟨M, 0, none⟩ v') /\ ∃ v ts, Hid (ts.length <= (pre ++ [(k, r)]).length /\ ∀ rest, X = (pre ++ [(k, r)]) ++ rest -> CO X [] = CO rest ts) /\ Boxed (w9.setCell ⟨M, 0, none⟩ v') M 22 v /\ BU (w9.setCell ⟨M, 0, none⟩ v') (M + 1 + 1) v ts /\ Boxed (w9.setCell ⟨M, 0, none⟩ v') N 22 (.slice none 0 0) /\ Boxed (w9.setCell ⟨M, 0, none⟩ v') (N + 1) 3 (.int .i64 0) /\ Boxed (w9.setCell ⟨M, 0, none⟩ v') (N + 1 + 1) 31 (.int .i64 0) /\ Below N w (w9.setCell ⟨M, 0, none⟩ v') /\ M + 1 < (w9.setCell ⟨M, 0, none⟩ v').heap.size from
     ⟨hk7.trans q1, v', ts ++ [⟨k, l1, l2⟩], hid ⟨by have := HTL.out; simp; omega, fun rest h => by rw [HST.out rest h]; rfl⟩, q2, q3, q6 N _ (by omega) (by omega) h4, q6 (N + 1) _ (by omega) (by omega) h5, q6 (N + 1 + 1) _ (by omega) (by omega) h6, q1.below h7 Nr (by omega), Nat.lt_of_lt_of_le (by simp; omega) q1.size⟩)
    obtain ⟨g, cap, rfl⟩ : ∃ g cap, v' = .slice (some ⟨g, 0, none⟩) (ts.length + 1) cap := by
     rcases hown.2 with ⟨_, h0⟩ | ⟨g, cap, cur, hv, _⟩
     ·omega
     ·exact ⟨g, cap, hv⟩
    clear q1 q2 q3 q6 hown hgrow h2 h3 h4 h5 h6 h7 hown0 c1 f1 t0 t1 t2 hX hk7
    gi_wp2
    exact FIN.out
  ·have HF := hid (show CO X [] = (([] : List Sc), (k : Int), Bj r) by
    obtain ⟨rest, h, _⟩ := HPR.out
    rw [h1.out.2 _ h, Q2 ht0])
   clear h1 h2 h3
   have m1 := Tt; have m2 := Td; have n1 := TV; have n2 := TQ
   rcases JH r with h | h | h
   ·exact absurd h ht0
   ·rw [h] at HF |-
    rw [show VP 80 = .iface 130 (.agg #[]) from rfl]
    have hW := fun wx => CallsIn.inRound l ((callsIn_wide (n := 0)).2 (QX wx))
    clear ht0 h
    gi_wp2_with fail
    refine (hW _).mono ?_
    rintro e w5 ⟨rfl, hb6⟩
    replace h4 := Ac h4 hb6
    replace h5 := Ac h5 hb6
    replace h6 := Ac h6 hb6
    replace h7 := h7.trans (hb6.mono (by have := h7.size; omega))
    have hs6 : w4.heap.size <= w5.heap.size := hb6.size
    replace hk5 := hk5.trans (Ag.of_below (C := fun k => k = M + 1) (n₀ := N) hb6)
    clear hW hb6
    have c2 := h4.cell; have f2 := h4.frozen
    have c3 := h5.cell; have f3 := h5.frozen
    have c4 := h6.cell; have f4 := h6.frozen
    obtain ⟨q1, q2, q3, q4⟩ := Ev (C := fun k => k = M + 1) h4 h5 h6 (by omega) (by omega) (by omega) (.slice none 0 0) (.int .i64 k) (.int .i64 80)
    have FIN := hid (Ai (hk5.trans q1) (Ai q2 (Ai q3 (Ai q4 (((h7.setCell (p := ⟨N, 0, none⟩) (by simp) (.slice none 0 0)).setCell (p := ⟨N + 1, 0, none⟩) (by simp) (.int .i64 k)).setCell (p := ⟨N + 1 + 1, 0, none⟩) (by simp; omega) (.int .i64 80))))))
    clear q1 q2 q3 q4 h4 h5 h6 h7 hk5
    gi_wp2
    exact ⟨FIN.out.1, rfl, k, 80, HF, FIN.out.2⟩
   ·rw [h] at HF |-
    rw [show VP 81 = .iface 131 (.agg #[]) from rfl]
    have hW := fun wx => CallsIn.inRound l ((callsIn_wide (n := 0)).2 (R7 wx))
    clear ht0 h
    gi_wp2_with fail
    refine (hW _).mono ?_
    rintro e w5 ⟨rfl, hb6⟩
    replace h4 := Ac h4 hb6
    replace h5 := Ac h5 hb6
    replace h6 := Ac h6 hb6
    replace h7 := h7.trans (hb6.mono (by have := h7.size; omega))
    have hs6 : w4.heap.size <= w5.heap.size := hb6.size
    replace hk5 := hk5.trans (Ag.of_below (C := fun k => k = M + 1) (n₀ := N) hb6)
    clear hW hb6
    have c2 := h4.cell; have f2 := h4.frozen
    have c3 := h5.cell; have f3 := h5.frozen
    have c4 := h6.cell; have f4 := h6.frozen
    obtain ⟨q1, q2, q3, q4⟩ := Ev (C := fun k => k = M + 1) h4 h5 h6 (by omega) (by omega) (by omega) (.slice none 0 0) (.int .i64 k) (.int .i64 81)
    have FIN := hid (Ai (hk5.trans q1) (Ai q2 (Ai q3 (Ai q4 (((h7.setCell (p := ⟨N, 0, none⟩) (by simp) (.slice none 0 0)).setCell (p := ⟨N + 1, 0, none⟩) (by simp) (.int .i64 k)).setCell (p := ⟨N + 1 + 1, 0, none⟩) (by simp; omega) (.int .i64 81))))))
    clear q1 q2 q3 q4 h4 h5 h6 h7 hk5
    gi_wp2
    exact ⟨FIN.out.1, rfl, k, 81, HF, FIN.out.2⟩
 case done =>
  rintro D W hD ⟨v, ts, h1, h2, h3, h4, h5, h6, h7, h8⟩ hK
  obtain ⟨A, cap, rfl⟩ : ∃ A cap, v = .slice A ts.length cap := by
   rcases h3.2 with ⟨hv, h0⟩ | ⟨g, cap, cur, hv, _⟩
   ·exact ⟨none, 0, by rw [hv, h0]⟩
   ·exact ⟨_, cap, hv⟩
  have c2 := h2.cell; have f2 := h2.frozen
  have c3 := h4.cell; have f3 := h4.frozen
  have c4 := h5.cell; have f4 := h5.frozen
  have c5 := h6.cell; have f5 := h6.frozen
  have HF := hid (show CO X [] = (ts, 0, 0) by rw [h1.out.2 [] (by simp)]; rfl)
  clear h1
  have hne : M ≠ N := by omega
  have hne1 : M ≠ N + 1 := by omega
  have hne2 : M ≠ N + 1 + 1 := by omega
  go_wp2
  have hK' : (((W.setCell ⟨N, 0, none⟩ (.slice A ts.length cap)).setCell ⟨N + 1, 0, none⟩ (.int .i64 0)).setCell ⟨N + 1 + 1, 0, none⟩ (.int .i64 0)).heap[D]? = some (.deferred (some [])) := (KeepsOthers.setCell _ _ _).same D _ ((KeepsOthers.setCell _ _ _).same D _ ((KeepsOthers.setCell W ⟨N, 0, none⟩ _).same D _ hK rfl) rfl) rfl
  refine ⟨by simp, .inl ⟨_, _, rfl, run_takeDeferred hK', ?_⟩⟩
  have d1 := (Ar (An (An (h4.set (.slice A ts.length cap)) (show N ≠ N + 1 by simp) (.int .i64 0)) (show N ≠ N + 1 + 1 by simp; omega) (.int .i64 0)) hK' (.deferred none)).cell
  have d2 := (Ar (An ((An h5 (show N + 1 ≠ N by simp) (.slice A ts.length cap)).set (.int .i64 0)) (show N + 1 ≠ N + 1 + 1 by simp) (.int .i64 0)) hK' (.deferred none)).cell
  have d3 := (Ar ((An (An h6 (show N + 1 + 1 ≠ N by simp; omega) (.slice A ts.length cap)) (show N + 1 + 1 ≠ N + 1 by simp) (.int .i64 0)).set (.int .i64 0)) hK' (.deferred none)).cell
  refine ⟨.tuple #[.slice A ts.length cap, .int .i64 0, .int .i64 0], by simp [results, Tryz.f15, go_sem, d1, d2, d3], ?_⟩
  rw [HF.out]
  refine ⟨_, rfl, BU.sl (B := M + 1 + 1) (BU.keep h3 (fun j c hB hj => ?_)), ?_⟩
  ·refine (World.putObj_heap_other (fun e => by subst e; rw [hK] at hj; cases hj)).trans ?_
   exact (Bh _ ⟨N + 1 + 1, 0, none⟩ _ j (fun e => by have e : j = N + 1 + 1 := e; omega)).trans ((Bh _ ⟨N + 1, 0, none⟩ _ j (fun e => by have e : j = N + 1 := e; omega)).trans ((Bh W ⟨N, 0, none⟩ _ j (fun e => by have e : j = N := e; omega)).trans hj))
  ·rw [hN]; exact Cp (((h7.setCell (p := ⟨N, 0, none⟩) (by simp) _).setCell (p := ⟨N + 1, 0, none⟩) (by simp) _).setCell (p := ⟨N + 1 + 1, 0, none⟩) (by simp; omega) _) hK' (by omega) (by omega) _
 case stop =>
  rintro D co pre W hD hpre ⟨rfl, p, e, hx, h3, h4, h5, h6⟩ hK
  refine wpIn_wide.2 ?_
  go_wp2
  refine ⟨by simp, .inl ⟨_, _, rfl, run_takeDeferred hK, ?_⟩⟩
  have d1 := (Ar h3 hK (.deferred none)).cell
  have d2 := (Ar h4 hK (.deferred none)).cell
  have d3 := (Ar h5 hK (.deferred none)).cell
  refine ⟨.tuple #[.slice none 0 0, .int .i64 p, .int .i64 e], by simp [results, Tryz.f15, go_sem, d1, d2, d3], ?_⟩
  rw [hx.out]
  refine ⟨_, rfl, Cy.nil _, ?_⟩
  rw [hN]; exact Cp h6 hK (by omega) (by omega) _
theorem P7 (s : ByteArray) (w : World) (hT : Bz w) (hL : Ot w) : Calls Tryz.prog 15 #[.string s] w (L7 (EY s.data.toList) w) := by
 unfold EY
 rw [<- Lib.size_eq]
 by_cases h8 : 8000 < s.size
 ·rw [if_pos h8]; exact Oa s w h8
 ·rw [if_neg h8]
  cases hv : validD s.data.toList with
  | false => exact PO s w h8 hv hT
  | true => exact OC s w h8 hv hT hL
end
end Go.Proofs.YtaogfdffgdglkaaGreatDoor
