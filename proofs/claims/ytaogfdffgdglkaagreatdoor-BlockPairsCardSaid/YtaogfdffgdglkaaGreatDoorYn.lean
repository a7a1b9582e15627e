/- What is proved: a part of the walk of the program and of its plain laws; no condition beside those that each theorem names. -/
import Derived.Test.YtaogfdffgdglkaaGreatDoorYa
import Derived.Test.YtaogfdffgdglkaaGreatDoorYm
namespace Go.Proofs.YtaogfdffgdglkaaGreatDoor
open Go Go.RowKit Go.Lib
set_option linter.unusedSimpArgs false
set_option linter.unusedVariables false
section
set_option maxRecDepth 100000
set_option maxHeartbeats 4000000
def Fi (R : Nat) (w : World) : Prop := ∃ w0, Bz w0 /\ w0.heap.size <= R /\ Below w0.heap.size w0 w
theorem Fi.tabs {R : Nat} {w : World} (h : Fi R w) : Bz w := by obtain ⟨w0, h1, _, h3⟩ := h; exact h1.below h3
theorem Fi.mod {R : Nat} {w w' : World} (h : Fi R w) (hm : Ax R w w') : Fi R w' := by
 obtain ⟨w0, h1, h2, h3⟩ := h
 exact ⟨w0, h1, h2, Af.below hm h3 (fun k hk => by omega) h3.size Nr⟩
structure Sy (w : World) (R : Nat) (s : ByteArray) (p d : Nat) (k0 s0 a0 : Value) (w' : World) : Prop where
 sx : Sx w R s p d w'
 tb : w'.heap[w.heap.size + 1]? = some (.cells #[k0, s0, a0] 116)
theorem Sy.below {w : World} {R : Nat} {s : ByteArray} {p d : Nat} {k0 s0 a0 : Value} {w1 w2 : World} (h : Sy w R s p d k0 s0 a0 w1) (hb : Below w1.heap.size w1 w2) : Sy w R s p d k0 s0 a0 w2 := ⟨h.sx.below hb, Aa h.tb hb⟩
theorem Sy.drew {w : World} {R : Nat} {s : ByteArray} {p d : Nat} {k0 s0 a0 : Value} {w1 : World} (h : Sy w R s p d k0 s0 a0 w1) : Sy w R s p d k0 s0 a0 w1.drew := h.below (Bq _ _).drew
theorem Sy.alloc {w : World} {R : Nat} {s : ByteArray} {p d : Nat} {k0 s0 a0 : Value} {w1 : World} (h : Sy w R s p d k0 s0 a0 w1) (o : Obj) : Sy w R s p d k0 s0 a0 (w1.alloc o) := h.below ((Bq _ w1).alloc Nr o)
theorem Sy.new {w : World} {R : Nat} {s : ByteArray} {p d : Nat} (h : RA w R s p d) (k0 s0 a0 : Value) : Sy w R s p d k0 s0 a0 ((w.alloc (.cells #[.int .i64 0, .string ⟨#[]⟩, .int .i64 0] 116)).alloc (.cells #[k0, s0, a0] 116)) :=
 ⟨(Sx.new h).alloc _, by have := Wn (w.alloc (.cells #[.int .i64 0, .string ⟨#[]⟩, .int .i64 0] 116)) (.cells #[k0, s0, a0] 116); rwa [World.size_alloc] at this⟩
theorem Sy.set1 {w : World} {R : Nat} {s : ByteArray} {p d : Nat} {k0 s0 a0 : Value} {w1 : World} (h : Sy w R s p d k0 s0 a0 w1) (hlt : R < w.heap.size) (p' : Nat) : Sy w R s p' d k0 s0 a0 (w1.setCell ⟨R, 1, none⟩ (.int .i64 p')) :=
 ⟨h.sx.set1 hlt p', (Bh w1 ⟨R, 1, none⟩ _ _ (by simp; omega)).trans h.tb⟩
theorem Sy.putS {w : World} {R : Nat} {s : ByteArray} {p d : Nat} {k0 s0 a0 : Value} {w1 : World} (h : Sy w R s p d k0 s0 a0 w1) (hlt : R < w.heap.size) (v : Value) : Sy w R s p d k0 v a0 (w1.setCell ⟨w.heap.size + 1, 1, none⟩ v) :=
 ⟨⟨h.sx.ra.far (a := ⟨w.heap.size + 1, 1, none⟩) (by simp; omega) v, h.sx.md.put (a := ⟨w.heap.size + 1, 1, none⟩) (by simp) v, (Bh w1 ⟨w.heap.size + 1, 1, none⟩ _ _ (by simp)).trans h.sx.res⟩, heap_setCell_same w1 _ 1 _ _ v h.tb⟩
theorem Sy.putK {w : World} {R : Nat} {s : ByteArray} {p d : Nat} {k0 s0 a0 : Value} {w1 : World} (h : Sy w R s p d k0 s0 a0 w1) (hlt : R < w.heap.size) (v : Value) : Sy w R s p d v s0 a0 (w1.setCell ⟨w.heap.size + 1, 0, none⟩ v) :=
 ⟨⟨h.sx.ra.far (a := ⟨w.heap.size + 1, 0, none⟩) (by simp; omega) v, h.sx.md.put (a := ⟨w.heap.size + 1, 0, none⟩) (by simp) v, (Bh w1 ⟨w.heap.size + 1, 0, none⟩ _ _ (by simp)).trans h.sx.res⟩, heap_setCell_same w1 _ 0 _ _ v h.tb⟩
theorem Sy.cells {w : World} {R : Nat} {s : ByteArray} {p d : Nat} {k0 s0 a0 : Value} {w1 : World} (h : Sy w R s p d k0 s0 a0 w1) : w1.cell? ⟨w.heap.size + 1, 0, none⟩ = some k0 /\ w1.cell? ⟨w.heap.size + 1, 1, none⟩ = some s0 /\ w1.cell? ⟨w.heap.size + 1, 2, none⟩ = some a0 /\ w1.frozen? ⟨w.heap.size + 1, 0, none⟩ = false /\ w1.frozen? ⟨w.heap.size + 1, 1, none⟩ = false /\ w1.frozen? ⟨w.heap.size + 1, 2, none⟩ = false := Az h.tb
theorem Sy.all {w : World} {R : Nat} {s : ByteArray} {p d : Nat} {k0 s0 a0 : Value} {w1 : World} (h : Sy w R s p d k0 s0 a0 w1) : w1.cell? ⟨R, 0, none⟩ = some (.string s) /\ w1.cell? ⟨R, 1, none⟩ = some (.int .i64 p) /\ w1.cell? ⟨R, 2, none⟩ = some (.int .i64 d) /\ w1.cell? ⟨w.heap.size + 1, 2, none⟩ = some a0 /\ w1.frozen? ⟨w.heap.size + 1, 1, none⟩ = false :=
 ⟨h.sx.ra.cells.1, h.sx.ra.cells.2.1, h.sx.ra.cells.2.2.1, h.cells.2.2.1, h.cells.2.2.2.2.1⟩
theorem Sy.all2 {w : World} {R : Nat} {s : ByteArray} {p d : Nat} {k0 s0 a0 : Value} {w1 : World} (h : Sy w R s p d k0 s0 a0 w1) : w1.cell? ⟨R, 2, none⟩ = some (.int .i64 d) /\ w1.cell? ⟨w.heap.size + 1, 1, none⟩ = some s0 :=
 ⟨h.sx.ra.cells.2.2.1, h.cells.2.1⟩
theorem Ov (s : ByteArray) (p k : Nat) : (s.extract p k).data.toList = (s.data.toList.take k).drop p := by
 rw [Lib.extract_data, List.drop_take]
theorem Hq (R : Nat) (s : ByteArray) (p d : Nat) (w : World) (hs : s.size <= 1000000) (hp : p < s.size) (hR : RA w R s p d) (hTab : Fi R w) :
  Calls Tryz.prog 133 #[.pointer (some ⟨R, 0, none⟩)] w (AG R s p (BE s.data.toList p d) w) := by
 obtain ⟨r, hr⟩ : ∃ r, BE s.data.toList p d = r := ⟨_, rfl⟩
 rw [hr]
 have HR := hid hr
 clear hr
 have hlt := hR.lt
 obtain ⟨fl, hf1⟩ : ∃ fl, decide (0 < d) = fl := ⟨_, rfl⟩
 have hf2 : decide ((0 : Int) < (d : Int)) = fl := by rw [<- hf1, Bool.eq_iff_iff]; simp
 have HF := hid hf1
 have hps : p <= s.size := by omega
 obtain ⟨r0, r1, r2, f0, f1, f2⟩ := hR.cells
 go_enter Tryz.func133, Tryz.ntmps133
 go_wp2
 have hY0 := Sy.new hR (.int .i64 1) (.string ⟨#[]⟩) (.int .i64 p)
 clear r0 r1 r2 f0 f1 f2
 revert hY0
 generalize (w.alloc (.cells #[.int .i64 0, .string ⟨#[]⟩, .int .i64 0] 116)).alloc (.cells #[.int .i64 1, .string ⟨#[]⟩, .int .i64 p] 116) = W0
 intro hY0
 go_loopg [] (s.size - p) (fun g wx => ∃ k : Nat, k + g = s.size /\ p <= k /\ Sy w R s k d (.int .i64 1) (.string ⟨#[]⟩) (.int .i64 p) wx /\ Hid (DG s.data.toList k d = DG s.data.toList p d))
 case atStart => exact ⟨p, by omega, Nat.le_refl _, hY0, hid rfl⟩
 case round =>
  obtain ⟨k, hkg, hpk, hY, HE⟩ := hrel
  clear hY0
  have hks : k <= s.size := by omega
  have hEnd := P3 R s k d wr hs (by omega) hY.sx.ra
  cases he : G7 s.data.toList k d with
  | false =>
   have HE' := hid (show DG s.data.toList (k + 1) d = DG s.data.toList p d by rw [<- Q1 he]; exact HE.out)
   have hks1 : k < s.size := by
    rcases Nat.lt_or_ge k s.size with h | h
    ·exact h
    ·unfold G7 at he; rw [<- Lib.size_eq, decide_eq_true h] at he; cases he
   rw [he] at hEnd
   clear he HE
   go_wp2_with fail
   refine hEnd.mono ?_
   rintro e w1 ⟨rfl, hb1⟩
   replace hY := hY.below hb1
   clear hEnd hb1
   obtain ⟨r0, r1, r2, f0, f1, f2⟩ := hY.sx.ra.cells
   go_wp2
   go_roundg (gk - 1)
   case measure => omega
   case rel => exact ⟨k + 1, by omega, by omega, hY.set1 hlt (k + 1), HE'⟩
  | true =>
   have HX := hid (show DG s.data.toList p d = k by rw [<- HE.out]; exact SK he)
   rw [he] at hEnd
   clear he HE
   obtain ⟨TT, hTT⟩ : ∃ TT, Lib.trimRightB (s.extract p k).data.toList 32 = TT := ⟨_, rfl⟩
   have hTR := fun wx => Tryz.strings_TrimRight_one (s.extract p k) 32 (by decide) wx (by rw [ByteArray.size_extract]; omega)
   rw [hTT] at hTR
   have hTs : (⟨TT.toArray⟩ : ByteArray).size <= 1000000 := by
    rw [CB, <- hTT]
    unfold Lib.trimRightB
    have h1 := Gv 32 (s.extract p k).data.toList.reverse
    rw [List.length_reverse] at h1 |-
    rw [<- Lib.size_eq, ByteArray.size_extract] at h1
    omega
   have hMay := fun wx hx => OU ⟨TT.toArray⟩ fl wx hTs hx
   rw [BM] at hMay
   have HT := hid (show FK ((s.data.toList.take (DG s.data.toList p d)).drop p) = TT by rw [HX.out, <- Ov]; exact hTT)
   obtain ⟨mb, hmb⟩ : ∃ mb, Gh TT fl = mb := ⟨_, rfl⟩
   rw [hmb] at hMay
   have HM := hid hmb
   clear hmb hTT hTs
   have hki : (k : Int) <= (s.size : Int) := by omega
   have hpi : (p : Int) <= (k : Int) := by omega
   go_wp2_with fail
   refine hEnd.mono ?_
   rintro e w1 ⟨rfl, hb1⟩
   replace hY := hY.below hb1
   clear hEnd hb1
   go_wp2
   replace hY := hY.drew
   refine wp_region_noPanic ?_
   refine wR 16 (S := (fun w' => w'.cell? ⟨R, 0, none⟩ = some (.string s) /\ w'.cell? ⟨R, 1, none⟩ = some (.int .i64 k) /\ w'.cell? ⟨R, 2, none⟩ = some (.int .i64 d) /\ w'.cell? ⟨w.heap.size + 1, 2, none⟩ = some (.int .i64 p) /\ w'.frozen? ⟨w.heap.size + 1, 1, none⟩ = false)) rfl ?_ (fun hHeld => ?_)
   ·(try dsimp only); exact hY.all
   simp only [gR]
   iterate 13 (refine wN hHeld ?_; try simp only [gS])
   refine wB 13 rfl (fun K hK => ?_)
   go_simp
   refine (hTR _).mono ?_
   rintro e wz ⟨rfl, hwz⟩
   subst wz
   try go_wp2_with fail
   refine hK.out _ _ ?_ (fun hHeld2 => ?_)
   ·(try dsimp only); exact hY.all
   clear hK K hHeld
   have hHeld := hHeld2; clear hHeld2
   try simp only [gS]
   refine wN hHeld ?_; try simp only [gS]
   refine wB 15 rfl (fun K hK => ?_)
   obtain ⟨tc0, tc1, tc2, tc3, tc4, tc5⟩ := hY.cells
   go_simp
   replace hY := hY.putS hlt (.string ⟨TT.toArray⟩)
   try go_wp2_with fail
   refine hK.out _ _ ?_ (fun hHeld2 => ?_)
   ·(try dsimp only); exact hY.all
   clear hK K hHeld tc0 tc1 tc2 tc3 tc4 tc5
   have hHeld := hHeld2; clear hHeld2
   try simp only [gS]
   refine wpAnyH_done (by kernel_rfl) ?_ _
   refine NoPanic.normal ?_
   go_wp2
   replace hY := hY.drew
   refine wp_region_noPanic ?_
   refine wR 9 (S := (fun w' => w'.cell? ⟨R, 2, none⟩ = some (.int .i64 d) /\ w'.cell? ⟨w.heap.size + 1, 1, none⟩ = some (.string ⟨TT.toArray⟩))) rfl ?_ (fun hHeld => ?_)
   ·(try dsimp only); exact hY.all2
   simp only [gR]
   iterate 7 (refine wN hHeld ?_; try simp only [gS])
   refine wB 7 rfl (fun K hK => ?_)
   go_simp
   refine (hMay _ (hTab.mod hY.sx.md).tabs).mono ?_
   rintro e wz ⟨rfl, hb⟩
   replace hY := hY.below hb
   try go_wp2_with fail
   refine hK.out _ _ ?_ (fun hHeld2 => ?_)
   ·(try dsimp only); exact hY.all2
   clear hK K hHeld
   have hHeld := hHeld2; clear hHeld2
   try simp only [gS]
   refine wN hHeld ?_; try simp only [gS]
   refine wpAnyH_done (by kernel_rfl) ?_ _
   refine NoPanic.normal ?_
   clear hTR hMay
   cases mb with
   | false =>
    have HQ := hid (show r = .bad 51 by rw [<- HR.out]; unfold BE; rw [HT.out, HF.out, HM.out, if_neg (by decide)])
    obtain ⟨n0, n1, n2, g0, g1, g2⟩ := hY.sx.cells
    go_wp2
    obtain ⟨e0, e1, e2, e3, e4⟩ := hY.sx.fin hlt (.int .i64 0) (.string ⟨#[]⟩) (.int .i64 0)
    refine bodyPost_ret (v := .tuple #[BP ⟨0, [], 0⟩, .iface 198 (.agg #[.int .i64 51])]) (by simp [results, Tryz.results133, go_sem, BP, e0, e1, e2]) rfl (AG.bad HQ.out rfl e4)
   | true =>
    have HQ := hid (show r = .ok 1 TT k d by rw [<- HR.out]; unfold BE; rw [HT.out, HF.out, HM.out, if_pos rfl, HX.out])
    obtain ⟨n0, n1, n2, g0, g1, g2⟩ := hY.sx.cells
    obtain ⟨t0, t1, t2, _⟩ := hY.cells
    go_wp2
    obtain ⟨e0, e1, e2, e3, e4⟩ := hY.sx.fin hlt (.int .i64 1) (.string ⟨TT.toArray⟩) (.int .i64 p)
    refine bodyPost_ret (v := .tuple #[BP ⟨1, TT, p⟩, .nilIface]) (by simp [results, Tryz.results133, go_sem, BP, e0, e1, e2]) rfl (AG.ok HQ.out rfl e3 e4)
structure Sz (w : World) (R : Nat) (w' : World) : Prop where
 md : Ax R w w'
 res : w'.heap[w.heap.size]? = some (.cells #[.int .i64 0, .string ⟨#[]⟩, .int .i64 0] 116)
theorem Sx.sz {w : World} {R : Nat} {s : ByteArray} {p d : Nat} {w1 w2 : World} (h : Sx w R s p d w1) (hlt : R < w.heap.size) (hm : Ax R w1 w2) : Sz w R w2 := ⟨h.md.trans hm, hm.heap h.res (by omega)⟩
theorem Sz.cells {w : World} {R : Nat} {w1 : World} (h : Sz w R w1) : w1.cell? ⟨w.heap.size, 0, none⟩ = some (.int .i64 0) /\ w1.cell? ⟨w.heap.size, 1, none⟩ = some (.string ⟨#[]⟩) /\ w1.cell? ⟨w.heap.size, 2, none⟩ = some (.int .i64 0) /\ w1.frozen? ⟨w.heap.size, 0, none⟩ = false /\ w1.frozen? ⟨w.heap.size, 1, none⟩ = false /\ w1.frozen? ⟨w.heap.size, 2, none⟩ = false := Az h.res
theorem Sz.fin {w : World} {R : Nat} {w1 : World} (h : Sz w R w1) (v0 v1 v2 : Value) :
  (((w1.setCell ⟨w.heap.size, 0, none⟩ v0).setCell ⟨w.heap.size, 1, none⟩ v1).setCell ⟨w.heap.size, 2, none⟩ v2).cell? ⟨w.heap.size, 0, none⟩ = some v0 ∧
  (((w1.setCell ⟨w.heap.size, 0, none⟩ v0).setCell ⟨w.heap.size, 1, none⟩ v1).setCell ⟨w.heap.size, 2, none⟩ v2).cell? ⟨w.heap.size, 1, none⟩ = some v1 ∧
  (((w1.setCell ⟨w.heap.size, 0, none⟩ v0).setCell ⟨w.heap.size, 1, none⟩ v1).setCell ⟨w.heap.size, 2, none⟩ v2).cell? ⟨w.heap.size, 2, none⟩ = some v2 ∧
  Ax R w (((w1.setCell ⟨w.heap.size, 0, none⟩ v0).setCell ⟨w.heap.size, 1, none⟩ v1).setCell ⟨w.heap.size, 2, none⟩ v2) := by
 have h0 := heap_setCell_same w1 w.heap.size 0 _ _ v0 h.res
 have h1 := heap_setCell_same _ w.heap.size 1 _ _ v1 h0
 have h2 := heap_setCell_same _ w.heap.size 2 _ _ v2 h1
 have h3 : (((w1.setCell ⟨w.heap.size, 0, none⟩ v0).setCell ⟨w.heap.size, 1, none⟩ v1).setCell ⟨w.heap.size, 2, none⟩ v2).heap[w.heap.size]? = some (.cells #[v0, v1, v2] 116) := h2
 obtain ⟨c0, c1, c2, _⟩ := Az h3
 exact ⟨c0, c1, c2, ((h.md.put (a := ⟨w.heap.size, 0, none⟩) Nr v0).put (a := ⟨w.heap.size, 1, none⟩) Nr v1).put (a := ⟨w.heap.size, 2, none⟩) Nr v2⟩
theorem RB (R : Nat) (s : ByteArray) (p d : Nat) (w : World) (hs : s.size <= 1000000) (hp : p < s.size) (hR : RA w R s p d) (hTab : Fi R w) :
  Calls Tryz.prog 158 #[.pointer (some ⟨R, 0, none⟩)] w (AG R s p (DW s.data.toList p d) w) := by
 have hB := fun wx hx => Ib R s p d 1 (p + 1) wx hs rfl (by omega) hx
 have hS := Sx.new hR
 have hlt := hR.lt
 cases hb : C2 s.data.toList (p + 1) with
 | false =>
  have HV := hid (show DW s.data.toList p d = BE s.data.toList p d by unfold DW; rw [hb, if_neg (by decide)])
  rw [hb] at hB
  rw [HV.out]
  clear hb HV
  obtain ⟨r, hr⟩ : ∃ r, BE s.data.toList p d = r := ⟨_, rfl⟩
  have hP := fun wx hx hy => Hq R s p d wx hs hp hx hy
  rw [hr] at hP |-
  clear hr
  go_enter Tryz.func158, Tryz.ntmps158
  go_wp2_with fail
  refine (hB _ hS.ra).mono ?_
  rintro e w1 ⟨rfl, hb1⟩
  replace hS := hS.below hb1
  clear hB hb1
  go_wp2_with fail
  refine (hP _ hS.ra (hTab.mod hS.md)).mono ?_
  rintro e w2 hQ
  clear hP
  cases r with
  | ok k t q d' =>
   obtain ⟨rfl, hr2, hm2⟩ := hQ
   replace hS := hS.mod hlt hr2 hm2
   clear hr2 hm2
   obtain ⟨n0, n1, n2, g0, g1, g2⟩ := hS.cells
   unfold BP
   go_wp2
   obtain ⟨e0, e1, e2, e3, e4⟩ := hS.fin hlt (.int .i64 k) (.string ⟨t.toArray⟩) (.int .i64 p)
   refine bodyPost_ret (v := .tuple #[BP ⟨k, t, p⟩, .nilIface]) (by simp [results, Tryz.results158, go_sem, BP, e0, e1, e2]) rfl (AG.ok rfl rfl e3 e4)
  | bad er =>
   obtain ⟨rfl, hm2⟩ := hQ
   have hZ := hS.sz hlt hm2
   clear hS hm2
   obtain ⟨n0, n1, n2, g0, g1, g2⟩ := hZ.cells
   unfold BP
   go_wp2
   obtain ⟨e0, e1, e2, e4⟩ := hZ.fin (.int .i64 0) (.string ⟨#[]⟩) (.int .i64 0)
   refine bodyPost_ret (v := .tuple #[BP ⟨0, [], 0⟩, .iface 198 (.agg #[.int .i64 er])]) (by simp [results, Tryz.results158, go_sem, BP, e0, e1, e2]) rfl (AG.bad rfl rfl e4)
 | true =>
  rw [hb] at hB
  by_cases hd : 0 < d
  ·rw [show DW s.data.toList p d = .bad 90 by unfold DW; rw [hb, if_pos rfl, if_pos hd]]
   have hdi : (0 : Int) < (d : Int) := by omega
   clear hb hd
   go_enter Tryz.func158, Tryz.ntmps158
   go_wp2_with fail
   refine (hB _ hS.ra).mono ?_
   rintro e w1 ⟨rfl, hb1⟩
   replace hS := hS.below hb1
   clear hB hb1
   obtain ⟨r0, r1, r2, f0, f1, f2⟩ := hS.ra.cells
   obtain ⟨n0, n1, n2, g0, g1, g2⟩ := hS.cells
   go_wp2
   obtain ⟨e0, e1, e2, e3, e4⟩ := hS.fin hlt (.int .i64 0) (.string ⟨#[]⟩) (.int .i64 0)
   refine bodyPost_ret (v := .tuple #[BP ⟨0, [], 0⟩, .iface 198 (.agg #[.int .i64 90])]) (by simp [results, Tryz.results158, go_sem, BP, e0, e1, e2]) rfl (AG.bad rfl rfl e4)
  rw [show DW s.data.toList p d = .ok 5 [] (p + 1) d by unfold DW; rw [hb, if_pos rfl, if_neg hd]]
  have hdi : ¬ (0 : Int) < (d : Int) := by omega
  clear hb hd
  go_enter Tryz.func158, Tryz.ntmps158
  go_wp2_with fail
  refine (hB _ hS.ra).mono ?_
  rintro e w1 ⟨rfl, hb1⟩
  replace hS := hS.below hb1
  clear hB hb1
  obtain ⟨r0, r1, r2, f0, f1, f2⟩ := hS.ra.cells
  go_wp2_with fail
  refine (G2 R s p d 5 _ (by omega) hS.ra).mono ?_
  rintro e w2 ⟨rfl, hr2, hm2⟩
  replace hS := hS.mod hlt hr2 hm2
  clear hr2 hm2 r0 r1 r2 f0 f1 f2
  obtain ⟨n0, n1, n2, g0, g1, g2⟩ := hS.cells
  unfold BP
  go_wp2
  obtain ⟨e0, e1, e2, e3, e4⟩ := hS.fin hlt (.int .i64 5) (.string ⟨#[]⟩) (.int .i64 p)
  refine bodyPost_ret (v := .tuple #[BP ⟨5, [], p⟩, .nilIface]) (by simp [results, Tryz.results158, go_sem, BP, e0, e1, e2]) rfl (AG.ok rfl rfl e3 e4)
theorem Qk (R : Nat) (s : ByteArray) (p d : Nat) (w : World) (hs : s.size <= 1000000) (hp : p < s.size) (hR : RA w R s p d) (hTab : Fi R w) :
  Calls Tryz.prog 159 #[.pointer (some ⟨R, 0, none⟩)] w (AG R s p (D0 s.data.toList p d) w) := by
 have hB := fun wx hx => Bv R s p d 1 (p + 1) wx hs rfl (by omega) hx
 have hS := Sx.new hR
 have hlt := hR.lt
 cases hb : AF s.data.toList (p + 1) d with
 | false =>
  have HV := hid (show D0 s.data.toList p d = BE s.data.toList p d by unfold D0; rw [hb, if_neg (by decide)])
  rw [hb] at hB
  rw [HV.out]
  clear hb HV
  obtain ⟨r, hr⟩ : ∃ r, BE s.data.toList p d = r := ⟨_, rfl⟩
  have hP := fun wx hx hy => Hq R s p d wx hs hp hx hy
  rw [hr] at hP |-
  clear hr
  go_enter Tryz.func159, Tryz.ntmps159
  go_wp2_with fail
  refine (hB _ hS.ra).mono ?_
  rintro e w1 ⟨rfl, hb1⟩
  replace hS := hS.below hb1
  clear hB hb1
  go_wp2_with fail
  refine (hP _ hS.ra (hTab.mod hS.md)).mono ?_
  rintro e w2 hQ
  clear hP
  cases r with
  | ok k t q d' =>
   obtain ⟨rfl, hr2, hm2⟩ := hQ
   replace hS := hS.mod hlt hr2 hm2
   clear hr2 hm2
   obtain ⟨n0, n1, n2, g0, g1, g2⟩ := hS.cells
   unfold BP
   go_wp2
   obtain ⟨e0, e1, e2, e3, e4⟩ := hS.fin hlt (.int .i64 k) (.string ⟨t.toArray⟩) (.int .i64 p)
   refine bodyPost_ret (v := .tuple #[BP ⟨k, t, p⟩, .nilIface]) (by simp [results, Tryz.results159, go_sem, BP, e0, e1, e2]) rfl (AG.ok rfl rfl e3 e4)
  | bad er =>
   obtain ⟨rfl, hm2⟩ := hQ
   have hZ := hS.sz hlt hm2
   clear hS hm2
   obtain ⟨n0, n1, n2, g0, g1, g2⟩ := hZ.cells
   unfold BP
   go_wp2
   obtain ⟨e0, e1, e2, e4⟩ := hZ.fin (.int .i64 0) (.string ⟨#[]⟩) (.int .i64 0)
   refine bodyPost_ret (v := .tuple #[BP ⟨0, [], 0⟩, .iface 198 (.agg #[.int .i64 er])]) (by simp [results, Tryz.results159, go_sem, BP, e0, e1, e2]) rfl (AG.bad rfl rfl e4)
 | true =>
  rw [hb] at hB
  rw [show D0 s.data.toList p d = .ok 6 [] (p + 1) d by unfold D0; rw [hb, if_pos rfl]]
  clear hb
  go_enter Tryz.func159, Tryz.ntmps159
  go_wp2_with fail
  refine (hB _ hS.ra).mono ?_
  rintro e w1 ⟨rfl, hb1⟩
  replace hS := hS.below hb1
  clear hB hb1
  obtain ⟨r0, r1, r2, f0, f1, f2⟩ := hS.ra.cells
  go_wp2_with fail
  refine (G2 R s p d 6 _ (by omega) hS.ra).mono ?_
  rintro e w2 ⟨rfl, hr2, hm2⟩
  replace hS := hS.mod hlt hr2 hm2
  clear hr2 hm2 r0 r1 r2 f0 f1 f2
  obtain ⟨n0, n1, n2, g0, g1, g2⟩ := hS.cells
  unfold BP
  go_wp2
  obtain ⟨e0, e1, e2, e3, e4⟩ := hS.fin hlt (.int .i64 6) (.string ⟨#[]⟩) (.int .i64 p)
  refine bodyPost_ret (v := .tuple #[BP ⟨6, [], p⟩, .nilIface]) (by simp [results, Tryz.results159, go_sem, BP, e0, e1, e2]) rfl (AG.ok rfl rfl e3 e4)
end
end Go.Proofs.YtaogfdffgdglkaaGreatDoor
