import Derived.Test.YtccjfoldjbmnfaaDoorLa
namespace Go.Proofs.YtccjfoldjbmnfaaDoor
open Go Go.RowKit Go.Lib
set_option linter.unusedSimpArgs false

theorem Tabs.alloc {w : World} (h : Tabs w) (o : Obj) : Tabs (w.alloc o) := h.below ((Below.refl _ w).alloc (Nat.le_refl _) o)
/-- A block of three cells, as a walk's facts. -/
def Blk (w : World) (b : Nat) (x : Sc) : Prop := w.heap[b]? = some (.cells #[.int .i64 x.kind, .int .i64 x.num, .string x.str] 23)
theorem Blk.below {w w' : World} {b : Nat} {x : Sc} (h : Blk w b x) (hb : Below w.heap.size w w') : Blk w' b x := heap_below h hb
theorem Blk.c0 {w : World} {b : Nat} {x : Sc} (h : Blk w b x) : w.cell? ⟨b, 0, none⟩ = some (.int .i64 x.kind) := (blk3 h).1
theorem Blk.c1 {w : World} {b : Nat} {x : Sc} (h : Blk w b x) : w.cell? ⟨b, 1, none⟩ = some (.int .i64 x.num) := (blk3 h).2.1
theorem Blk.c2 {w : World} {b : Nat} {x : Sc} (h : Blk w b x) : w.cell? ⟨b, 2, none⟩ = some (.string x.str) := (blk3 h).2.2.1

/-- What is held of the world while the last line is reckoned. -/
def Held (w : World) (bA bB bC bD bX : Nat) (x y z : Sc) (w' : World) : Prop := Below w.heap.size w w' ∧ Blk w' bA x ∧ Blk w' bB x ∧ Blk w' bC y ∧ Blk w' bD y ∧ Blk w' bX z
theorem Held.step {w : World} {bA bB bC bD bX : Nat} {x y z : Sc} {w1 w2 : World} (h : Held w bA bB bC bD bX x y z w1) (hb : Below w1.heap.size w1 w2) : Held w bA bB bC bD bX x y z w2 :=
  ⟨below_step h.1 hb, h.2.1.below hb, h.2.2.1.below hb, h.2.2.2.1.below hb, h.2.2.2.2.1.below hb, h.2.2.2.2.2.below hb⟩
theorem Held.below' {w : World} {bA bB bC bD bX : Nat} {x y z : Sc} {w' : World} (h : Held w bA bB bC bD bX x y z w') : Below w.heap.size w w' := h.1
theorem Held.all {w : World} {bA bB bC bD bX : Nat} {x y z : Sc} {w' : World} (h : Held w bA bB bC bD bX x y z w') :
    w'.cell? ⟨bA, 0, none⟩ = some (.int .i64 x.kind) ∧ w'.cell? ⟨bA, 1, none⟩ = some (.int .i64 x.num) ∧ w'.cell? ⟨bA, 2, none⟩ = some (.string x.str) ∧
    w'.cell? ⟨bB, 0, none⟩ = some (.int .i64 x.kind) ∧ w'.cell? ⟨bB, 1, none⟩ = some (.int .i64 x.num) ∧ w'.cell? ⟨bB, 2, none⟩ = some (.string x.str) ∧
    w'.cell? ⟨bC, 0, none⟩ = some (.int .i64 y.kind) ∧ w'.cell? ⟨bC, 1, none⟩ = some (.int .i64 y.num) ∧ w'.cell? ⟨bC, 2, none⟩ = some (.string y.str) ∧
    w'.cell? ⟨bD, 0, none⟩ = some (.int .i64 y.kind) ∧ w'.cell? ⟨bD, 1, none⟩ = some (.int .i64 y.num) ∧ w'.cell? ⟨bD, 2, none⟩ = some (.string y.str) ∧
    w'.cell? ⟨bX, 0, none⟩ = some (.int .i64 z.kind) ∧ w'.cell? ⟨bX, 1, none⟩ = some (.int .i64 z.num) ∧ w'.cell? ⟨bX, 2, none⟩ = some (.string z.str) :=
  ⟨h.2.1.c0, h.2.1.c1, h.2.1.c2, h.2.2.1.c0, h.2.2.1.c1, h.2.2.1.c2, h.2.2.2.1.c0, h.2.2.2.1.c1, h.2.2.2.1.c2, h.2.2.2.2.1.c0, h.2.2.2.2.1.c1, h.2.2.2.2.1.c2, h.2.2.2.2.2.c0, h.2.2.2.2.2.c1, h.2.2.2.2.2.c2⟩

set_option maxRecDepth 100000 in
set_option maxHeartbeats 2000000 in
theorem PlainTells_any (s : ByteArray) (flow : Bool) (k n : Int) (t : ByteArray) (w : World) (hT : Tabs w) :
    Calls Tryd.prog 3 #[.string s, .bool flow, .agg #[.int .i64 k, .int .i64 n, .string t]] w fun e w' => e = .returned (.bool true) ∧ Below w.heap.size w w' := by
  obtain ⟨S, hS⟩ : ∃ S, cutB s = S := ⟨_, rfl⟩
  obtain ⟨T, hTT⟩ : ∃ T, cutB t = T := ⟨_, rfl⟩
  have hSs : S.size ≤ 1000000 := by have := cutB_size s; rw [hS] at this; omega
  have hTs : T.size ≤ 1000000 := by have := cutB_size t; rw [hTT] at this; omega
  have hcs := cut_same s
  have hct := cut_same t
  rw [hS] at hcs
  rw [hTT] at hct
  have hRp := fun wx hx => Resolve_any S wx hSs hx
  have hRr := fun wx => refResolve_any S wx hSs
  have hDp := fun wx hx => Read_any S flow wx hSs hx
  have hDr := fun wx => refRead_any S flow wx hSs
  rw [resolve_eq] at hRr
  rw [read_eq] at hDr
  obtain ⟨⟨⟨k1, n1, t1⟩, e1⟩, hx⟩ : ∃ p, resolveP S = p := ⟨_, rfl⟩
  obtain ⟨⟨⟨k2, n2, t2⟩, e2⟩, hy⟩ : ∃ p, readP S flow = p := ⟨_, rfl⟩
  rw [hx] at hRp hRr
  rw [hy] at hDp hDr
  simp only [scV] at hRp hRr hDp hDr
  clear hS hTT hx hy
  go_enter Tryd.func3, Tryd.ntmps3
  go_wp2_with fail
  refine (shown_any _ (hT.alloc _)).mono ?_
  rintro e w1 ⟨rfl, hb1⟩
  obtain ⟨hX1, hs1⟩ := laid_call hb1
  clear hb1
  go_wp2_with fail
  refine (hcs w1).mono ?_
  rintro e w1' ⟨rfl, hw⟩
  subst w1'
  clear hcs
  obtain ⟨c0, c1, c2, f0, f1, f2⟩ := blk3 hX1
  go_wp2_with fail
  refine (hct w1).mono ?_
  rintro e w1' ⟨rfl, hw⟩
  subst w1'
  clear hct
  have hX1b := heap_setCell_same w1 _ 2 _ _ (.string T) hX1
  have hs1b : Below w.heap.size w (w1.setCell ⟨w.heap.size, 2, none⟩ (.string T)) := hs1.setCell (Nat.le_refl _) _
  go_wp2_with fail
  refine (hRp _ (hT.below hs1b)).mono ?_
  rintro e w2 ⟨rfl, hb2⟩
  have hX2 : Blk w2 w.heap.size ⟨k, n, T⟩ := heap_below hX1b hb2
  have hs2 := below_step hs1b hb2
  clear hb2 hX1b hX1 c0 c1 c2 f0 f1 f2 hs1b hs1 hRp
  go_wp2_with fail
  refine (hRr _).mono ?_
  rintro e w3 ⟨rfl, hb3⟩
  obtain ⟨hA, hd⟩ := laid_call hb3
  have hA3 : Blk w3 w2.heap.size ⟨k1, n1, t1⟩ := hA
  have hX3 := hX2.below hd
  have hs3 := below_step hs2 hd
  clear hA hb3 hX2 hs2 hd hRr
  go_wp2_with fail
  refine (hDp _ ((hT.below hs3).alloc _)).mono ?_
  rintro e w4 ⟨rfl, hb4⟩
  obtain ⟨hB, hd⟩ := laid_call hb4
  have hB4 : Blk w4 w3.heap.size ⟨k1, n1, t1⟩ := hB
  have hX4 := hX3.below hd
  have hA4 := hA3.below hd
  have hs4 := below_step hs3 hd
  clear hB hb4 hX3 hA3 hs3 hd hDp
  go_wp2_with fail
  refine (hDr _).mono ?_
  rintro e w5 ⟨rfl, hb5⟩
  obtain ⟨hC, hd⟩ := laid_call hb5
  have hC5 : Blk w5 w4.heap.size ⟨k2, n2, t2⟩ := hC
  have hX5 := hX4.below hd
  have hA5 := hA4.below hd
  have hB5 := hB4.below hd
  have hs5 := below_step hs4 hd
  clear hC hb5 hX4 hA4 hB4 hs4 hd hDr
  go_wp2_with fail
  have hd := (Below.refl w5.heap.size w5).alloc (Nat.le_refl _) (.cells #[.int .i64 k2, .int .i64 n2, .string t2] 23)
  have hz : Held w w2.heap.size w3.heap.size w4.heap.size w5.heap.size w.heap.size ⟨k1, n1, t1⟩ ⟨k2, n2, t2⟩ ⟨k, n, T⟩ (w5.alloc (.cells #[.int .i64 k2, .int .i64 n2, .string t2] 23)) :=
    ⟨below_step hs5 hd, hA5.below hd, hB5.below hd, hC5.below hd, World.alloc_heap_new _ _, hX5.below hd⟩
  clear hd hX5 hA5 hB5 hC5 hs5
  generalize w5.alloc (.cells #[.int .i64 k2, .int .i64 n2, .string t2] 23) = w6 at hz ⊢
  have hz0 : Held w w2.heap.size w3.heap.size w4.heap.size w5.heap.size w.heap.size ⟨k1, n1, t1⟩ ⟨k2, n2, t2⟩ ⟨k, n, T⟩ w6.drew := hz.step (Below.refl _ _).drew
  have hMr := fun wx => mayR_any S flow wx hSs
  rw [mayR_eq] at hMr
  go_region_held3 (fun w' => w'.cell? ⟨w2.heap.size, 0, none⟩ = some (.int .i64 k1) ∧ w'.cell? ⟨w2.heap.size, 1, none⟩ = some (.int .i64 n1) ∧ w'.cell? ⟨w2.heap.size, 2, none⟩ = some (.string t1) ∧ w'.cell? ⟨w3.heap.size, 0, none⟩ = some (.int .i64 k1) ∧ w'.cell? ⟨w3.heap.size, 1, none⟩ = some (.int .i64 n1) ∧ w'.cell? ⟨w3.heap.size, 2, none⟩ = some (.string t1) ∧ w'.cell? ⟨w4.heap.size, 0, none⟩ = some (.int .i64 k2) ∧ w'.cell? ⟨w4.heap.size, 1, none⟩ = some (.int .i64 n2) ∧ w'.cell? ⟨w4.heap.size, 2, none⟩ = some (.string t2) ∧ w'.cell? ⟨w5.heap.size, 0, none⟩ = some (.int .i64 k2) ∧ w'.cell? ⟨w5.heap.size, 1, none⟩ = some (.int .i64 n2) ∧ w'.cell? ⟨w5.heap.size, 2, none⟩ = some (.string t2) ∧ w'.cell? ⟨w.heap.size, 0, none⟩ = some (.int .i64 k) ∧ w'.cell? ⟨w.heap.size, 1, none⟩ = some (.int .i64 n) ∧ w'.cell? ⟨w.heap.size, 2, none⟩ = some (.string T)) (exact Held.all (by assumption)) (first | (go_at_call 14; refine (May_any S flow _ hSs (hT.below (Held.below' (w := w) (bA := w2.heap.size) (bB := w3.heap.size) (bC := w4.heap.size) (bD := w5.heap.size) (bX := w.heap.size) (x := ⟨k1, n1, t1⟩) (y := ⟨k2, n2, t2⟩) (z := ⟨k, n, T⟩) (by assumption)))).mono ?_; rintro e wz ⟨rfl, hb⟩; have hz : Held w w2.heap.size w3.heap.size w4.heap.size w5.heap.size w.heap.size ⟨k1, n1, t1⟩ ⟨k2, n2, t2⟩ ⟨k, n, T⟩ wz := Held.step (by assumption) hb) | (go_at_call 15; refine (hMr _).mono ?_; rintro e wz ⟨rfl, hb⟩; have hz : Held w w2.heap.size w3.heap.size w4.heap.size w5.heap.size w.heap.size ⟨k1, n1, t1⟩ ⟨k2, n2, t2⟩ ⟨k, n, T⟩ wz := Held.step (by assumption) hb) | (go_at_call 16; refine (plainRight_any k n T _ hTs (hT.below (Held.below' (w := w) (bA := w2.heap.size) (bB := w3.heap.size) (bC := w4.heap.size) (bD := w5.heap.size) (bX := w.heap.size) (x := ⟨k1, n1, t1⟩) (y := ⟨k2, n2, t2⟩) (z := ⟨k, n, T⟩) (by assumption)))).mono ?_; rintro e wz ⟨rfl, hb⟩; have hz : Held w w2.heap.size w3.heap.size w4.heap.size w5.heap.size w.heap.size ⟨k1, n1, t1⟩ ⟨k2, n2, t2⟩ ⟨k, n, T⟩ wz := Held.step (by assumption) hb) | (go_at_call 17; refine (refRight_any k n T _ hTs).mono ?_; rintro e wz ⟨rfl, hb⟩; have hz : Held w w2.heap.size w3.heap.size w4.heap.size w5.heap.size w.heap.size ⟨k1, n1, t1⟩ ⟨k2, n2, t2⟩ ⟨k, n, T⟩ wz := Held.step (by assumption) hb))
  go_wp2
  go_ret
  exact ⟨rfl, hz.1⟩
end Go.Proofs.YtccjfoldjbmnfaaDoor
