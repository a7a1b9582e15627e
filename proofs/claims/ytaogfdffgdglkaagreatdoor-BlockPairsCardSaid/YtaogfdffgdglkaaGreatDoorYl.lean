/- What is proved: a part of the walk of the program and of its plain laws; no condition beside those that each theorem names. -/
import Derived.Test.YtaogfdffgdglkaaGreatDoorYk
import Derived.Test.YtaogfdffgdglkaaGreatDoorYa
namespace Go.Proofs.YtaogfdffgdglkaaGreatDoor
open Go Go.RowKit Go.Lib
set_option linter.unusedSimpArgs false
set_option linter.unusedVariables false
section
set_option maxRecDepth 100000
set_option maxHeartbeats 2000000
def Ax (R : Nat) (w w' : World) : Prop := Af (fun k => k = R) w.heap.size w w'
def AG (R : Nat) (s : ByteArray) (p : Nat) (r : TR) (w : World) (e : Ending) (w' : World) : Prop :=
 match r with
 | .ok k t q d' => e = .returned (.tuple #[BP ⟨k, t, p⟩, .nilIface]) /\ RA w' R s q d' /\ Ax R w w'
 | .bad er => e = .returned (.tuple #[BP ⟨0, [], 0⟩, .iface 198 (.agg #[.int .i64 er])]) /\ Ax R w w'
theorem AG.ok {R : Nat} {s : ByteArray} {p : Nat} {r : TR} {w : World} {e : Ending} {w' : World} {k q d' : Nat} {t : List UInt8} (hr : r = .ok k t q d') (he : e = .returned (.tuple #[BP ⟨k, t, p⟩, .nilIface])) (h1 : RA w' R s q d') (h2 : Ax R w w') : AG R s p r w e w' := by
 subst hr; exact ⟨he, h1, h2⟩
theorem AG.bad {R : Nat} {s : ByteArray} {p : Nat} {r : TR} {w : World} {e : Ending} {w' : World} {er : Nat} (hr : r = .bad er) (he : e = .returned (.tuple #[BP ⟨0, [], 0⟩, .iface 198 (.agg #[.int .i64 er])])) (h2 : Ax R w w') : AG R s p r w e w' := by
 subst hr; exact ⟨he, h2⟩
theorem RA.set1 {w : World} {R : Nat} {s : ByteArray} {p d : Nat} (h : RA w R s p d) (p' : Nat) : RA (w.setCell ⟨R, 1, none⟩ (.int .i64 p')) R s p' d := heap_setCell_same w R 1 _ _ _ h
theorem RA.set2 {w : World} {R : Nat} {s : ByteArray} {p d : Nat} (h : RA w R s p d) (d' : Nat) : RA (w.setCell ⟨R, 2, none⟩ (.int .i64 d')) R s p d' := heap_setCell_same w R 2 _ _ _ h
theorem Ax.below {R : Nat} {w w1 w2 : World} (h : Ax R w w1) (hb : Below w1.heap.size w1 w2) : Ax R w w2 := h.trans (Af.of_below hb)
theorem Ax.of_below {R : Nat} {w w1 : World} (hb : Below w.heap.size w w1) : Ax R w w1 := Af.of_below hb
theorem Ax.alloc {R : Nat} {w w1 : World} (h : Ax R w w1) (o : Obj) : Ax R w (w1.alloc o) := h.trans (Af.alloc _ _)
theorem Ax.set {R : Nat} {w w1 : World} (h : Ax R w w1) (o : Nat) (v : Value) : Ax R w (w1.setCell ⟨R, o, none⟩ v) := h.trans (Af.setCell _ _ _ rfl)
theorem Ax.refl (R : Nat) (w : World) : Ax R w w := Af.refl _ _ _
theorem Ax.trans {R : Nat} {w w1 w2 : World} (h : Ax R w w1) (k : Ax R w1 w2) : Ax R w w2 := Af.trans h (k.mono h.size)
theorem Ax.size {R : Nat} {w w1 : World} (h : Ax R w w1) : w.heap.size <= w1.heap.size := Af.size h
theorem Ax.put {R : Nat} {w w1 : World} (h : Ax R w w1) {a : Addr} (ha : w.heap.size <= a.block) (v : Value) : Ax R w (w1.setCell a v) :=
 ⟨h.os, h.tape, h.output, by simpa [World.setCell] using Af.size h, fun k o hk hc _ => (Bh w1 a v k (fun e => by have := (Gl hk); omega)).trans (h.block k o hk hc (.inl (Gl hk))), fun k c e fz hk => by
  obtain ⟨c', fz', h2⟩ := h.kinds k c e fz hk
  exact ⟨c', fz', (Bh w1 a v k (fun e => by have := (Gl hk); omega)).trans h2⟩⟩
theorem Ax.heap {R : Nat} {w w1 : World} (h : Ax R w w1) {k : Nat} {o : Obj} (hk : w.heap[k]? = some o) (hne : k ≠ R) : w1.heap[k]? = some o := h.block k o hk hne (.inl (Gl hk))
theorem G2 (R : Nat) (s : ByteArray) (p d k : Nat) (w : World) (hp : p <= 1000000) (hR : RA w R s p d) :
  Calls Tryz.prog 178 #[.pointer (some ⟨R, 0, none⟩), .int .i64 k] w fun e w' => e = .returned (.tuple #[BP ⟨k, [], p⟩, .nilIface]) /\ RA w' R s (p + 1) d /\ Ax R w w' := by
 obtain ⟨r0, r1, r2, f0, f1, f2⟩ := hR.cells
 have hlt := hR.lt
 go_enter Tryz.func178, Tryz.ntmps178
 go_wp2
 refine bodyPost_ret (v := .tuple #[BP ⟨k, [], p⟩, .nilIface]) (by simp [results, Tryz.results178, go_sem, BP]) rfl ⟨rfl, ((hR.set1 (p + 1)).alloc _).alloc _, (((Ax.refl R w).set 1 _).alloc _).alloc _⟩
structure Sx (w : World) (R : Nat) (s : ByteArray) (p d : Nat) (w' : World) : Prop where
 ra : RA w' R s p d
 md : Ax R w w'
 res : w'.heap[w.heap.size]? = some (.cells #[.int .i64 0, .string ⟨#[]⟩, .int .i64 0] 116)
theorem Sx.below {w : World} {R : Nat} {s : ByteArray} {p d : Nat} {w1 w2 : World} (h : Sx w R s p d w1) (hb : Below w1.heap.size w1 w2) : Sx w R s p d w2 := ⟨h.ra.below hb, h.md.below hb, Aa h.res hb⟩
theorem Sx.mod {w : World} {R : Nat} {s : ByteArray} {p d p' d' : Nat} {w1 w2 : World} (h : Sx w R s p d w1) (hlt : R < w.heap.size) (hr : RA w2 R s p' d') (hm : Ax R w1 w2) : Sx w R s p' d' w2 := ⟨hr, h.md.trans hm, hm.heap h.res (by omega)⟩
theorem Sx.new {w : World} {R : Nat} {s : ByteArray} {p d : Nat} (h : RA w R s p d) : Sx w R s p d (w.alloc (.cells #[.int .i64 0, .string ⟨#[]⟩, .int .i64 0] 116)) := ⟨h.alloc _, (Ax.refl R w).alloc _, Wn _ _⟩
theorem RA.far {w : World} {R : Nat} {s : ByteArray} {p d : Nat} (h : RA w R s p d) {a : Addr} (hne : R ≠ a.block) (v : Value) : RA (w.setCell a v) R s p d := (Bh w a v R hne).trans h
theorem Sx.alloc {w : World} {R : Nat} {s : ByteArray} {p d : Nat} {w1 : World} (h : Sx w R s p d w1) (o : Obj) : Sx w R s p d (w1.alloc o) := h.below ((Bq _ w1).alloc Nr o)
theorem Sx.cells {w : World} {R : Nat} {s : ByteArray} {p d : Nat} {w1 : World} (h : Sx w R s p d w1) : w1.cell? ⟨w.heap.size, 0, none⟩ = some (.int .i64 0) /\ w1.cell? ⟨w.heap.size, 1, none⟩ = some (.string ⟨#[]⟩) /\ w1.cell? ⟨w.heap.size, 2, none⟩ = some (.int .i64 0) /\ w1.frozen? ⟨w.heap.size, 0, none⟩ = false /\ w1.frozen? ⟨w.heap.size, 1, none⟩ = false /\ w1.frozen? ⟨w.heap.size, 2, none⟩ = false := Az h.res
theorem Sx.fin {w : World} {R : Nat} {s : ByteArray} {p d : Nat} {w1 : World} (h : Sx w R s p d w1) (hlt : R < w.heap.size) (v0 v1 v2 : Value) :
  (((w1.setCell ⟨w.heap.size, 0, none⟩ v0).setCell ⟨w.heap.size, 1, none⟩ v1).setCell ⟨w.heap.size, 2, none⟩ v2).cell? ⟨w.heap.size, 0, none⟩ = some v0 ∧
  (((w1.setCell ⟨w.heap.size, 0, none⟩ v0).setCell ⟨w.heap.size, 1, none⟩ v1).setCell ⟨w.heap.size, 2, none⟩ v2).cell? ⟨w.heap.size, 1, none⟩ = some v1 ∧
  (((w1.setCell ⟨w.heap.size, 0, none⟩ v0).setCell ⟨w.heap.size, 1, none⟩ v1).setCell ⟨w.heap.size, 2, none⟩ v2).cell? ⟨w.heap.size, 2, none⟩ = some v2 ∧
  RA (((w1.setCell ⟨w.heap.size, 0, none⟩ v0).setCell ⟨w.heap.size, 1, none⟩ v1).setCell ⟨w.heap.size, 2, none⟩ v2) R s p d /\ Ax R w (((w1.setCell ⟨w.heap.size, 0, none⟩ v0).setCell ⟨w.heap.size, 1, none⟩ v1).setCell ⟨w.heap.size, 2, none⟩ v2) := by
 have h0 := heap_setCell_same w1 w.heap.size 0 _ _ v0 h.res
 have h1 := heap_setCell_same _ w.heap.size 1 _ _ v1 h0
 have h2 := heap_setCell_same _ w.heap.size 2 _ _ v2 h1
 have h3 : (((w1.setCell ⟨w.heap.size, 0, none⟩ v0).setCell ⟨w.heap.size, 1, none⟩ v1).setCell ⟨w.heap.size, 2, none⟩ v2).heap[w.heap.size]? = some (.cells #[v0, v1, v2] 116) := h2
 obtain ⟨c0, c1, c2, _⟩ := Az h3
 exact ⟨c0, c1, c2, ((h.ra.far (a := ⟨w.heap.size, 0, none⟩) (Nat.ne_of_lt hlt) v0).far (a := ⟨w.heap.size, 1, none⟩) (Nat.ne_of_lt hlt) v1).far (a := ⟨w.heap.size, 2, none⟩) (Nat.ne_of_lt hlt) v2, ((h.md.put (a := ⟨w.heap.size, 0, none⟩) Nr v0).put (a := ⟨w.heap.size, 1, none⟩) Nr v1).put (a := ⟨w.heap.size, 2, none⟩) Nr v2⟩
theorem QJ (N : Nat) (R : Nat) (s : ByteArray) (p d : Nat) (z : Int) (i : Nat) (bs : List UInt8) (n cap : Nat) (fz : Nat × Nat) (w : World) (hN : w.heap.size = N) (hs : s.size <= 1000000) (hz : (p : Int) + z = (i : Int)) (hi : i <= 2000000) (hn : bs.length = n) (hbs : n <= 1000) (hR : RA w R s p d) :
  Calls Tryz.prog 103 #[.pointer (some ⟨R, 0, none⟩), .int .i64 z, .slice (some ⟨N, 0, none⟩) n cap] (w.alloc (.cells (bs.map fun c => Value.int .u8 ((c.toNat : Nat) : Int)).toArray 5 fz)) fun e w' => e = .returned (.bool (C3 s.data.toList i bs)) /\ Below w.heap.size w w' := by
 subst hN
 exact D5 R s p d z i bs n cap fz w hs hz hi hn hbs hR
theorem Sx.set2 {w : World} {R : Nat} {s : ByteArray} {p d : Nat} {w1 : World} (h : Sx w R s p d w1) (hlt : R < w.heap.size) (d' : Nat) : Sx w R s p d' (w1.setCell ⟨R, 2, none⟩ (.int .i64 d')) :=
 ⟨h.ra.set2 d', h.md.set 2 _, (Bh w1 ⟨R, 2, none⟩ _ _ (by simp; omega)).trans h.res⟩
theorem Sx.set1 {w : World} {R : Nat} {s : ByteArray} {p d : Nat} {w1 : World} (h : Sx w R s p d w1) (hlt : R < w.heap.size) (p' : Nat) : Sx w R s p' d (w1.setCell ⟨R, 1, none⟩ (.int .i64 p')) :=
 ⟨h.ra.set1 p', h.md.set 1 _, (Bh w1 ⟨R, 1, none⟩ _ _ (by simp; omega)).trans h.res⟩
theorem PN (R : Nat) (s : ByteArray) (p d : Nat) (w : World) (hs : s.size <= 1000000) (hp : p < s.size) (hd : d <= 1000000) (hR : RA w R s p d) (c : UInt8) (hc : s[p]'hp = c) :
  Calls Tryz.prog 160 #[.pointer (some ⟨R, 0, none⟩)] w (AG R s p (.ok (if c = 91 then 8 else 10) [] (p + 1) (d + 1)) w) := by
 have HB := hid (show C3 s.data.toList p [91] = (c == 91) by rw [Ud hp hc, Ld])
 clear hc
 obtain ⟨kk, hkk⟩ : ∃ kk, (if c = 91 then 8 else 10) = kk := ⟨_, rfl⟩
 rw [hkk]
 have HK := hid hkk
 clear hkk
 have hlt := hR.lt
 obtain ⟨r0, r1, r2, f0, f1, f2⟩ := hR.cells
 have hI := fun wx hn hx => QJ (w.heap.size + 1) R s p (d + 1) 0 p [91] 1 1 (0, 0) wx hn hs (by omega) (by omega) rfl (by omega) hx
 rw [HB.out] at hI
 have hK := fun wx hx k => G2 R s p (d + 1) k wx (by omega) hx
 have hS1 : Sx w R s p (d + 1) ((w.setCell ⟨R, 2, none⟩ (.int .i64 ((d : Int) + 1))).alloc (.cells #[.int .i64 0, .string ⟨#[]⟩, .int .i64 0] 116)) := by
  have h := Sx.new (hR.set2 (d + 1))
  exact ⟨h.ra, ((Ax.refl R w).set 2 _).alloc _, by have := h.res; simpa [World.setCell] using this⟩
 go_enter Tryz.func160, Tryz.ntmps160
 go_wp2_with fail
 refine (hI _ (by simp [World.setCell]) hS1.ra).mono ?_
 rintro e w1 ⟨rfl, hb1⟩
 have hS2 := hS1.below hb1
 clear hI hS1 hb1 r0 r1 r2 f0 f1 f2
 by_cases h91 : c = 91
 ·have HP := hid (show kk = 8 by rw [<- HK.out, if_pos h91])
  have hq : (c == 91) = true := by simpa using h91
  clear h91 HB HK
  go_wp2_with fail
  refine (hK _ hS2.ra 8).mono ?_
  rintro e w2 ⟨rfl, hr2, hm2⟩
  have hS3 := hS2.mod hlt hr2 hm2
  clear hK hS2 hr2 hm2
  obtain ⟨n0, n1, n2, g0, g1, g2⟩ := hS3.cells
  unfold BP
  go_wp2
  obtain ⟨e0, e1, e2, e3, e4⟩ := hS3.fin hlt (.int .i64 8) (.string ⟨#[]⟩) (.int .i64 p)
  refine bodyPost_ret (v := .tuple #[BP ⟨8, [], p⟩, .nilIface]) (by simp [results, Tryz.results160, go_sem, BP, e0, e1, e2]) rfl (AG.ok (by rw [HP.out]) rfl e3 e4)
 ·have HP := hid (show kk = 10 by rw [<- HK.out, if_neg h91])
  have hq : (c == 91) = false := by simpa using h91
  clear h91 HB HK
  go_wp2_with fail
  refine (hK _ hS2.ra 10).mono ?_
  rintro e w2 ⟨rfl, hr2, hm2⟩
  have hS3 := hS2.mod hlt hr2 hm2
  clear hK hS2 hr2 hm2
  obtain ⟨n0, n1, n2, g0, g1, g2⟩ := hS3.cells
  unfold BP
  go_wp2
  obtain ⟨e0, e1, e2, e3, e4⟩ := hS3.fin hlt (.int .i64 10) (.string ⟨#[]⟩) (.int .i64 p)
  refine bodyPost_ret (v := .tuple #[BP ⟨10, [], p⟩, .nilIface]) (by simp [results, Tryz.results160, go_sem, BP, e0, e1, e2]) rfl (AG.ok (by rw [HP.out]) rfl e3 e4)
def Io (r : Int) : Value := .int .u8 r
def Lw : List (Int × Value) := [(44, .int .i64 7), (93, .int .i64 9), (125, .int .i64 11)]
def D1 (k : Nat) : Obj := CQ Io (Lw.take k)
theorem Pi (a b : Int) : Instr.sameNow (.int .u8) (Io a) (Io b) = some (a == b) := rfl
theorem Lm (a : Int) : MapKept.IsKey (.int .u8) (Io a) := by unfold Io; simp [MapKept.IsKey]
theorem Gf (w : World) (k : Nat) (a : Int) (v : Value) (h : BH a (Lw.take k) = none) (hk : Lw.take (k + 1) = Lw.take k ++ [(a, v)]) :
  (Instr.mapUpdate 275 (.map (some w.heap.size)) (.int .u8 a) v).run Tryz.prog (w.alloc (D1 k)) = .ok () (w.alloc (D1 (k + 1))) := by
 unfold D1
 rw [hk]
 have := D6 (P := Tryz.prog) (enc := Io) Pi Lm (t := 275) (k := 5) (e := 3) (w := w.alloc (CQ Io (Lw.take k))) (l := Lw.take k) Tryz.underlying275 Tryz.underlying5 (Wn w _) a v h
 rw [E1] at this
 exact this
theorem QR (c : Int) (w : World) (b : Nat) (hb : w.heap[b]? = some (D1 3)) :
  (Instr.lookup 275 (.map (some b)) (.int .u8 c) false).run Tryz.prog w = .ok ((BH c Lw).getD (.int .i64 0)) w :=
 D2 (P := Tryz.prog) (enc := Io) Pi Lm (k := 5) (e := 3) (l := Lw) (z := .int .i64 0) Tryz.underlying275 Tryz.underlying5 (by kernel_rfl) hb c false
theorem OA (R : Nat) (s : ByteArray) (p d : Nat) (w : World) (hs : s.size <= 1000000) (hp : p < s.size) (hd : d <= 1000000) (hR : RA w R s p d) (c : UInt8) (hc : s[p]'hp = c) (hcc : c = 44 \/ c = 93 \/ c = 125) :
  Calls Tryz.prog 161 #[.pointer (some ⟨R, 0, none⟩)] w (AG R s p (Cx c p d) w) := by
 obtain ⟨k, hk, HQ⟩ : ∃ k : Nat, BH (c.toNat : Int) Lw = some (.int .i64 k) /\ Hid (0 < d -> Cx c p d = .ok k [] (p + 1) (if k = 7 then d else d - 1)) := by
  rcases hcc with rfl | rfl | rfl
  ·exact ⟨7, rfl, hid fun hd => by unfold Cx; rw [if_neg (by omega), if_pos rfl]; rfl⟩
  ·exact ⟨9, rfl, hid fun hd => by unfold Cx; rw [if_neg (by omega), if_neg (by decide)]; rfl⟩
  ·exact ⟨11, rfl, hid fun hd => by unfold Cx; rw [if_neg (by omega), if_neg (by decide)]; rfl⟩
 have HZ := hid (show d = 0 -> Cx c p d = .bad 90 from fun h => by unfold Cx; rw [if_pos h])
 clear hcc
 obtain ⟨r, hr⟩ : ∃ r, Cx c p d = r := ⟨_, rfl⟩
 rw [hr] at HQ HZ |-
 clear hr
 have hlt := hR.lt
 have hmm := @run_makeMap Tryz.prog
 have h0 := Gf (w.alloc (.cells #[.int .i64 0, .string ⟨#[]⟩, .int .i64 0] 116)) 0 44 (.int .i64 7) rfl rfl
 have h1 := Gf (w.alloc (.cells #[.int .i64 0, .string ⟨#[]⟩, .int .i64 0] 116)) 1 93 (.int .i64 9) (by decide +kernel) rfl
 have h2 := Gf (w.alloc (.cells #[.int .i64 0, .string ⟨#[]⟩, .int .i64 0] 116)) 2 125 (.int .i64 11) (by decide +kernel) rfl
 rw [World.size_alloc, show D1 0 = .map #[] 0 from rfl] at h0
 rw [World.size_alloc] at h1 h2
 obtain ⟨r0, r1, r2, f0, f1, f2⟩ := hR.cells
 have hlk : ∀ n, (Instr.lookup 275 (.map (some (w.heap.size + 1))) (.int .u8 (c.toNat : Int)) false).run Tryz.prog (((w.alloc (.cells #[.int .i64 0, .string ⟨#[]⟩, .int .i64 0] 116)).alloc (D1 3)).drewN n) = .ok (.int .i64 k) (((w.alloc (.cells #[.int .i64 0, .string ⟨#[]⟩, .int .i64 0] 116)).alloc (D1 3)).drewN n) := fun n => by
  have h := QR (c.toNat : Int) (((w.alloc (.cells #[.int .i64 0, .string ⟨#[]⟩, .int .i64 0] 116)).alloc (D1 3)).drewN n) (w.heap.size + 1) (by have := Wn (w.alloc (.cells #[.int .i64 0, .string ⟨#[]⟩, .int .i64 0] 116)) (D1 3); simpa using this)
  rw [hk] at h
  exact h
 have hS1 : Sx w R s p d ((w.alloc (.cells #[.int .i64 0, .string ⟨#[]⟩, .int .i64 0] 116)).alloc (D1 3)) := (Sx.new hR).alloc _
 have HK := hid hk
 clear hk
 have hpi : (p : Int) < (s.size : Int) := by omega
 have hK := fun wx dx hx => G2 R s p dx k wx (by omega) hx
 go_enter Tryz.func161, Tryz.ntmps161
 go_wp2
 go_quiet (fail)
 have hS2 : Sx w R s p d (((w.alloc (.cells #[.int .i64 0, .string ⟨#[]⟩, .int .i64 0] 116)).alloc (D1 3)).drewN nq) := hS1.below (Ae (Bq _ _))
 clear hS1 h0 h1 h2 hmm hlk r0 r1 r2 f0 f1 f2
 revert hS2
 generalize ((w.alloc (.cells #[.int .i64 0, .string ⟨#[]⟩, .int .i64 0] 116)).alloc (D1 3)).drewN nq = W1
 intro hS2
 by_cases hd0 : d = 0
 ·subst hd0
  obtain ⟨r0, r1, r2, f0, f1, f2⟩ := hS2.ra.cells
  obtain ⟨n0, n1, n2, g0, g1, g2⟩ := hS2.cells
  go_wp2
  obtain ⟨e0, e1, e2, e3, e4⟩ := hS2.fin hlt (.int .i64 0) (.string ⟨#[]⟩) (.int .i64 0)
  refine bodyPost_ret (v := .tuple #[BP ⟨0, [], 0⟩, .iface 198 (.agg #[.int .i64 90])]) (by simp [results, Tryz.results161, go_sem, BP, e0, e1, e2]) rfl (AG.bad (HZ.out (by first | rfl | trivial)) rfl e4)
 ·obtain ⟨d1, rfl⟩ : ∃ d1, d = d1 + 1 := ⟨d - 1, by omega⟩
  have hde : (((d1 + 1 : Nat) : Int) == 0) = false := by rw [beq_eq_false_iff_ne]; omega
  obtain ⟨r0, r1, r2, f0, f1, f2⟩ := hS2.ra.cells
  by_cases hk7 : k = 7
  ·subst hk7
   go_wp2_with fail
   refine (hK _ _ hS2.ra).mono ?_
   rintro e w2 ⟨rfl, hr2, hm2⟩
   have hS3 := hS2.mod hlt hr2 hm2
   clear hK hS2 hr2 hm2 r0 r1 r2 f0 f1 f2
   obtain ⟨n0, n1, n2, g0, g1, g2⟩ := hS3.cells
   unfold BP
   go_wp2
   obtain ⟨e0, e1, e2, e3, e4⟩ := hS3.fin hlt (.int .i64 7) (.string ⟨#[]⟩) (.int .i64 p)
   refine bodyPost_ret (v := .tuple #[BP ⟨7, [], p⟩, .nilIface]) (by simp [results, Tryz.results161, go_sem, BP, e0, e1, e2]) rfl (AG.ok (HQ.out (by omega)) rfl e3 e4)
  ·have hkn : ((k : Int) == 7) = false := by rw [beq_eq_false_iff_ne]; omega
   have HK7 := hid hk7
   clear hk7
   have hS2b := hS2.set2 hlt d1
   go_wp2_with fail
   refine (hK _ _ hS2b.ra).mono ?_
   rintro e w2 ⟨rfl, hr2, hm2⟩
   have hS3 := hS2b.mod hlt hr2 hm2
   clear hK hS2 hS2b hr2 hm2 r0 r1 r2 f0 f1 f2
   obtain ⟨n0, n1, n2, g0, g1, g2⟩ := hS3.cells
   unfold BP
   go_wp2
   obtain ⟨e0, e1, e2, e3, e4⟩ := hS3.fin hlt (.int .i64 k) (.string ⟨#[]⟩) (.int .i64 p)
   refine bodyPost_ret (v := .tuple #[BP ⟨k, [], p⟩, .nilIface]) (by simp [results, Tryz.results161, go_sem, BP, e0, e1, e2]) rfl (AG.ok ((HQ.out (by omega)).trans (by rw [if_neg HK7.out]; rfl)) rfl e3 e4)
end
section
set_option maxRecDepth 100000
set_option maxHeartbeats 4000000
theorem Al.ra {w : World} {R : Nat} {s : ByteArray} {p d : Nat} {w' : World} (h : Al w R s p d w') : RA w' R s p d := h.2
theorem SR (R : Nat) (s : ByteArray) (p d : Nat) (w : World) (hs : s.size <= 1000000) (hlt : p < s.size) (hR : RA w R s p d) (hn : BV s.data.toList p = true) :
  Calls Tryz.prog 162 #[.pointer (some ⟨R, 0, none⟩)] w fun e w' => e = .returned (.bool true) /\ Below w.heap.size w w' := by
 have hN := fun wx hx => CG R s p d wx hs (by omega) hx
 have hC := fun wx hx => Bv R s p d 1 (p + 1) wx hs rfl (by omega) hx
 have hI := fun wx hx => DJ R s p d 0 p [58] 1 1 wx hs (by omega) (by omega) rfl (by omega) hx
 have hF := fun wx hx => D5 R s p d 0 p CN 5 5 (5, 6) wx hs (by omega) (by omega) rfl (by omega) hx
 have hcv := fun (w : World) (C : Array Value) (n c : Nat) => Lib.run_convert_bytes_const (P := Tryz.prog) w 90 5 C n c Tryz.underlying90 Tryz.underlying5
 have hd1 : decide ((s.size : Int) <= (p : Int)) = false := by simp; omega
 have hd2 : decide (s.size <= p) = false := by simp; omega
 rw [hn] at hN
 clear hn
 have hH := Al.refl hR
 obtain ⟨FF, hFF⟩ : ∃ FF, C3 s.data.toList p CN = FF := ⟨_, rfl⟩
 rw [hFF] at hF
 clear hFF hlt
 go_enter Tryz.func162, Tryz.ntmps162
 go_wp2
 refine wp_region_noPanic ?_
 refine wR 45 (S := (fun w' => w'.cell? ⟨R, 0, none⟩ = some (.string s) /\ w'.cell? ⟨R, 1, none⟩ = some (.int .i64 p) /\ w'.cell? ⟨R, 2, none⟩ = some (.int .i64 d))) rfl ?_ (fun hHeld => ?_)
 ·(try dsimp only); first | exact Al.all hH | exact Al.all (Al.alloc hH _)
 simp only [gR]
 iterate 16 (refine wN hHeld ?_; try simp only [gS])
 refine wB 16 rfl (fun K hK => ?_)
 go_simp
 refine (hN _ hH.ra).mono ?_
 rintro e wz ⟨rfl, hb⟩
 replace hH := Al.step hH hb
 try go_wp2_with fail
 refine hK.out _ _ ?_ (fun hHeld2 => ?_)
 ·(try dsimp only); first | exact Al.all hH | exact Al.all (Al.alloc hH _)
 clear hK K hHeld
 have hHeld := hHeld2; clear hHeld2
 try simp only [gS]
 iterate 2 (refine wN hHeld ?_; try simp only [gS])
 refine wU 19 rfl (by rfl) hHeld ?_
 try simp only [gS]
 refine wU 20 rfl (by rfl) hHeld ?_
 try simp only [gS]
 refine wU 21 rfl (by rfl) hHeld ?_
 try simp only [gS]
 refine wU 22 rfl (by rfl) hHeld ?_
 try simp only [gS]
 refine wU 23 rfl (by rfl) hHeld ?_
 try simp only [gS]
 refine wU 24 rfl (by rfl) hHeld ?_
 try simp only [gS]
 refine wU 25 rfl (by rfl) hHeld ?_
 try simp only [gS]
 refine wU 26 rfl (by rfl) hHeld ?_
 try simp only [gS]
 refine wU 27 rfl (by rfl) hHeld ?_
 try simp only [gS]
 iterate 2 (refine wN hHeld ?_; try simp only [gS])
 refine wU 30 rfl (by rfl) hHeld ?_
 try simp only [gS]
 refine wU 31 rfl (by rfl) hHeld ?_
 try simp only [gS]
 refine wU 32 rfl (by rfl) hHeld ?_
 try simp only [gS]
 refine wU 33 rfl (by rfl) hHeld ?_
 try simp only [gS]
 refine wU 34 rfl (by rfl) hHeld ?_
 try simp only [gS]
 refine wU 35 rfl (by rfl) hHeld ?_
 try simp only [gS]
 refine wU 36 rfl (by rfl) hHeld ?_
 try simp only [gS]
 refine wU 37 rfl (by rfl) hHeld ?_
 try simp only [gS]
 refine wU 38 rfl (by rfl) hHeld ?_
 try simp only [gS]
 refine wU 39 rfl (by rfl) hHeld ?_
 try simp only [gS]
 refine wU 40 rfl (by rfl) hHeld ?_
 try simp only [gS]
 refine wU 41 rfl (by rfl) hHeld ?_
 try simp only [gS]
 refine wU 42 rfl (by rfl) hHeld ?_
 try simp only [gS]
 iterate 2 (refine wN hHeld ?_; try simp only [gS])
 refine wpAnyH_done (by kernel_rfl) ?_ _
 refine NoPanic.normal ?_
 go_wp2
 go_ret
 exact ⟨rfl, hH.1⟩
end
section
set_option maxRecDepth 100000
set_option maxHeartbeats 4000000
theorem Rg (R : Nat) (s : ByteArray) (p d : Nat) (w : World) (hs : s.size <= 1000000) (hlt : p < s.size) (hR : RA w R s p d) (hn : BV s.data.toList p = false) (hi : C3 s.data.toList p [58] = true) (hc : AF s.data.toList (p + 1) d = true) :
  Calls Tryz.prog 162 #[.pointer (some ⟨R, 0, none⟩)] w fun e w' => e = .returned (.bool true) /\ Below w.heap.size w w' := by
 have hN := fun wx hx => CG R s p d wx hs (by omega) hx
 have hC := fun wx hx => Bv R s p d 1 (p + 1) wx hs rfl (by omega) hx
 have hI := fun wx hx => DJ R s p d 0 p [58] 1 1 wx hs (by omega) (by omega) rfl (by omega) hx
 have hF := fun wx hx => D5 R s p d 0 p CN 5 5 (5, 6) wx hs (by omega) (by omega) rfl (by omega) hx
 have hcv := fun (w : World) (C : Array Value) (n c : Nat) => Lib.run_convert_bytes_const (P := Tryz.prog) w 90 5 C n c Tryz.underlying90 Tryz.underlying5
 have hd1 : decide ((s.size : Int) <= (p : Int)) = false := by simp; omega
 have hd2 : decide (s.size <= p) = false := by simp; omega
 rw [hn] at hN
 rw [hi] at hI
 rw [hc] at hC
 clear hn hi hc
 have hH := Al.refl hR
 obtain ⟨FF, hFF⟩ : ∃ FF, C3 s.data.toList p CN = FF := ⟨_, rfl⟩
 rw [hFF] at hF
 clear hFF hlt
 go_enter Tryz.func162, Tryz.ntmps162
 go_wp2
 refine wp_region_noPanic ?_
 refine wR 45 (S := (fun w' => w'.cell? ⟨R, 0, none⟩ = some (.string s) /\ w'.cell? ⟨R, 1, none⟩ = some (.int .i64 p) /\ w'.cell? ⟨R, 2, none⟩ = some (.int .i64 d))) rfl ?_ (fun hHeld => ?_)
 ·(try dsimp only); first | exact Al.all hH | exact Al.all (Al.alloc hH _)
 simp only [gR]
 iterate 16 (refine wN hHeld ?_; try simp only [gS])
 refine wB 16 rfl (fun K hK => ?_)
 go_simp
 refine (hN _ hH.ra).mono ?_
 rintro e wz ⟨rfl, hb⟩
 replace hH := Al.step hH hb
 try go_wp2_with fail
 refine hK.out _ _ ?_ (fun hHeld2 => ?_)
 ·(try dsimp only); first | exact Al.all hH | exact Al.all (Al.alloc hH _)
 clear hK K hHeld
 have hHeld := hHeld2; clear hHeld2
 try simp only [gS]
 iterate 5 (refine wN hHeld ?_; try simp only [gS])
 refine wB 22 rfl (fun K hK => ?_)
 go_simp
 refine hK.out _ _ ?_ (fun hHeld2 => ?_)
 ·(try dsimp only); first | exact Al.all hH | exact Al.all (Al.alloc hH _)
 clear hK K hHeld
 have hHeld := hHeld2; clear hHeld2
 try simp only [gS]
 refine wB 23 rfl (fun K hK => ?_)
 go_simp
 refine (hI _ hH.ra).mono ?_
 rintro e wz ⟨rfl, hb⟩
 replace hH := Al.step hH hb
 try go_wp2_with fail
 refine hK.out _ _ ?_ (fun hHeld2 => ?_)
 ·(try dsimp only); first | exact Al.all hH | exact Al.all (Al.alloc hH _)
 clear hK K hHeld
 have hHeld := hHeld2; clear hHeld2
 try simp only [gS]
 iterate 2 (refine wN hHeld ?_; try simp only [gS])
 refine wB 26 rfl (fun K hK => ?_)
 go_simp
 refine (hC _ hH.ra).mono ?_
 rintro e wz ⟨rfl, hb⟩
 replace hH := Al.step hH hb
 try go_wp2_with fail
 refine hK.out _ _ ?_ (fun hHeld2 => ?_)
 ·(try dsimp only); first | exact Al.all hH | exact Al.all (Al.alloc hH _)
 clear hK K hHeld
 have hHeld := hHeld2; clear hHeld2
 try simp only [gS]
 iterate 3 (refine wN hHeld ?_; try simp only [gS])
 refine wU 30 rfl (by rfl) hHeld ?_
 try simp only [gS]
 refine wU 31 rfl (by rfl) hHeld ?_
 try simp only [gS]
 refine wU 32 rfl (by rfl) hHeld ?_
 try simp only [gS]
 refine wU 33 rfl (by rfl) hHeld ?_
 try simp only [gS]
 refine wU 34 rfl (by rfl) hHeld ?_
 try simp only [gS]
 refine wU 35 rfl (by rfl) hHeld ?_
 try simp only [gS]
 refine wU 36 rfl (by rfl) hHeld ?_
 try simp only [gS]
 refine wU 37 rfl (by rfl) hHeld ?_
 try simp only [gS]
 refine wU 38 rfl (by rfl) hHeld ?_
 try simp only [gS]
 refine wU 39 rfl (by rfl) hHeld ?_
 try simp only [gS]
 refine wU 40 rfl (by rfl) hHeld ?_
 try simp only [gS]
 refine wU 41 rfl (by rfl) hHeld ?_
 try simp only [gS]
 refine wU 42 rfl (by rfl) hHeld ?_
 try simp only [gS]
 iterate 2 (refine wN hHeld ?_; try simp only [gS])
 refine wpAnyH_done (by kernel_rfl) ?_ _
 refine NoPanic.normal ?_
 go_wp2
 go_ret
 exact ⟨rfl, hH.1⟩
theorem S3 (R : Nat) (s : ByteArray) (p d : Nat) (w : World) (hs : s.size <= 1000000) (hlt : p < s.size) (hR : RA w R s p d) (hn : BV s.data.toList p = false) (hi : C3 s.data.toList p [58] = true) (hc : AF s.data.toList (p + 1) d = false) (hd : 0 < d) :
  Calls Tryz.prog 162 #[.pointer (some ⟨R, 0, none⟩)] w fun e w' => e = .returned (.bool (C3 s.data.toList p CN)) /\ Below w.heap.size w w' := by
 have hN := fun wx hx => CG R s p d wx hs (by omega) hx
 have hC := fun wx hx => Bv R s p d 1 (p + 1) wx hs rfl (by omega) hx
 have hI := fun wx hx => DJ R s p d 0 p [58] 1 1 wx hs (by omega) (by omega) rfl (by omega) hx
 have hF := fun wx hx => D5 R s p d 0 p CN 5 5 (5, 6) wx hs (by omega) (by omega) rfl (by omega) hx
 have hcv := fun (w : World) (C : Array Value) (n c : Nat) => Lib.run_convert_bytes_const (P := Tryz.prog) w 90 5 C n c Tryz.underlying90 Tryz.underlying5
 have hd1 : decide ((s.size : Int) <= (p : Int)) = false := by simp; omega
 have hd2 : decide (s.size <= p) = false := by simp; omega
 rw [hn] at hN
 rw [hi] at hI
 rw [hc] at hC
 have hdd : decide ((0 : Int) < (d : Int)) = true := by simpa using hd
 have hdd2 : decide (0 < d) = true := by simpa using hd
 clear hd
 clear hn hi hc
 have hH := Al.refl hR
 obtain ⟨FF, hFF⟩ : ∃ FF, C3 s.data.toList p CN = FF := ⟨_, rfl⟩
 rw [hFF] at hF |-
 clear hFF hlt
 go_enter Tryz.func162, Tryz.ntmps162
 go_wp2
 refine wp_region_noPanic ?_
 refine wR 45 (S := (fun w' => w'.cell? ⟨R, 0, none⟩ = some (.string s) /\ w'.cell? ⟨R, 1, none⟩ = some (.int .i64 p) /\ w'.cell? ⟨R, 2, none⟩ = some (.int .i64 d))) rfl ?_ (fun hHeld => ?_)
 ·(try dsimp only); first | exact Al.all hH | exact Al.all (Al.alloc hH _)
 simp only [gR]
 iterate 16 (refine wN hHeld ?_; try simp only [gS])
 refine wB 16 rfl (fun K hK => ?_)
 go_simp
 refine (hN _ hH.ra).mono ?_
 rintro e wz ⟨rfl, hb⟩
 replace hH := Al.step hH hb
 try go_wp2_with fail
 refine hK.out _ _ ?_ (fun hHeld2 => ?_)
 ·(try dsimp only); first | exact Al.all hH | exact Al.all (Al.alloc hH _)
 clear hK K hHeld
 have hHeld := hHeld2; clear hHeld2
 try simp only [gS]
 iterate 5 (refine wN hHeld ?_; try simp only [gS])
 refine wB 22 rfl (fun K hK => ?_)
 go_simp
 refine hK.out _ _ ?_ (fun hHeld2 => ?_)
 ·(try dsimp only); first | exact Al.all hH | exact Al.all (Al.alloc hH _)
 clear hK K hHeld
 have hHeld := hHeld2; clear hHeld2
 try simp only [gS]
 refine wB 23 rfl (fun K hK => ?_)
 go_simp
 refine (hI _ hH.ra).mono ?_
 rintro e wz ⟨rfl, hb⟩
 replace hH := Al.step hH hb
 try go_wp2_with fail
 refine hK.out _ _ ?_ (fun hHeld2 => ?_)
 ·(try dsimp only); first | exact Al.all hH | exact Al.all (Al.alloc hH _)
 clear hK K hHeld
 have hHeld := hHeld2; clear hHeld2
 try simp only [gS]
 iterate 2 (refine wN hHeld ?_; try simp only [gS])
 refine wB 26 rfl (fun K hK => ?_)
 go_simp
 refine (hC _ hH.ra).mono ?_
 rintro e wz ⟨rfl, hb⟩
 replace hH := Al.step hH hb
 try go_wp2_with fail
 refine hK.out _ _ ?_ (fun hHeld2 => ?_)
 ·(try dsimp only); first | exact Al.all hH | exact Al.all (Al.alloc hH _)
 clear hK K hHeld
 have hHeld := hHeld2; clear hHeld2
 try simp only [gS]
 iterate 12 (refine wN hHeld ?_; try simp only [gS])
 refine wB 39 rfl (fun K hK => ?_)
 go_simp
 refine hK.out _ _ ?_ (fun hHeld2 => ?_)
 ·(try dsimp only); first | exact Al.all hH | exact Al.all (Al.alloc hH _)
 clear hK K hHeld
 have hHeld := hHeld2; clear hHeld2
 try simp only [gS]
 refine wB 40 rfl (fun K hK => ?_)
 go_simp
 refine hK.out _ _ ?_ (fun hHeld2 => ?_)
 ·(try dsimp only); first | exact Al.all hH | exact Al.all (Al.alloc hH _)
 clear hK K hHeld
 have hHeld := hHeld2; clear hHeld2
 try simp only [gS]
 refine wB 41 rfl (fun K hK => ?_)
 go_simp
 refine (hF _ hH.ra).mono ?_
 rintro e wz ⟨rfl, hb⟩
 replace hH := Al.step hH hb
 try go_wp2_with fail
 refine hK.out _ _ ?_ (fun hHeld2 => ?_)
 ·(try dsimp only); first | exact Al.all hH | exact Al.all (Al.alloc hH _)
 clear hK K hHeld
 have hHeld := hHeld2; clear hHeld2
 try simp only [gS]
 iterate 3 (refine wN hHeld ?_; try simp only [gS])
 refine wpAnyH_done (by kernel_rfl) ?_ _
 refine NoPanic.normal ?_
 go_wp2
 go_ret
 exact ⟨rfl, hH.1⟩
end
end Go.Proofs.YtaogfdffgdglkaaGreatDoor
