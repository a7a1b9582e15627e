/- What is proved: package tok's pieces that have no text: kind, opens, inside. -/
import Derived.Test.YtiinnnbpbnojgaaGreatDoorKb
import Derived.Test.YtiinnnbpbnojgaaGreatDoorGs
namespace Go.Proofs.YtiinnnbpbnojgaaGreatDoor
open Go Go.RowKit Go.Lib
set_option linter.unusedSimpArgs false
set_option linter.unusedVariables false

/-- Only one old block may have changed. -/
def ModR (R : Nat) (w w' : World) : Prop := Turn (fun k => k = R) w.heap.size w w'
/-- What a reader of a piece leaves. -/
def PostT (R : Nat) (s : ByteArray) (p : Nat) (r : TR) (w : World) (e : Ending) (w' : World) : Prop :=
  match r with
  | .ok k t q d' => e = .returned (.tuple #[tkV ⟨k, t, p⟩, .nilIface]) ∧ RA w' R s q d' ∧ ModR R w w'
  | .bad er => e = .returned (.tuple #[tkV ⟨0, [], 0⟩, .iface 181 (.agg #[.int .i64 er])]) ∧ ModR R w w'
theorem PostT.ok {R : Nat} {s : ByteArray} {p : Nat} {r : TR} {w : World} {e : Ending} {w' : World} {k q d' : Nat} {t : List UInt8} (hr : r = .ok k t q d') (he : e = .returned (.tuple #[tkV ⟨k, t, p⟩, .nilIface])) (h1 : RA w' R s q d') (h2 : ModR R w w') : PostT R s p r w e w' := by
  subst hr; exact ⟨he, h1, h2⟩
theorem PostT.bad {R : Nat} {s : ByteArray} {p : Nat} {r : TR} {w : World} {e : Ending} {w' : World} {er : Nat} (hr : r = .bad er) (he : e = .returned (.tuple #[tkV ⟨0, [], 0⟩, .iface 181 (.agg #[.int .i64 er])])) (h2 : ModR R w w') : PostT R s p r w e w' := by
  subst hr; exact ⟨he, h2⟩
/-- The reader goes on: its block is turned. -/
theorem RA.set1 {w : World} {R : Nat} {s : ByteArray} {p d : Nat} (h : RA w R s p d) (p' : Nat) : RA (w.setCell ⟨R, 1, none⟩ (.int .i64 p')) R s p' d := heap_setCell_same w R 1 _ _ _ h
theorem RA.set2 {w : World} {R : Nat} {s : ByteArray} {p d : Nat} (h : RA w R s p d) (d' : Nat) : RA (w.setCell ⟨R, 2, none⟩ (.int .i64 d')) R s p d' := heap_setCell_same w R 2 _ _ _ h

theorem ModR.below {R : Nat} {w w1 w2 : World} (h : ModR R w w1) (hb : Below w1.heap.size w1 w2) : ModR R w w2 := h.trans (Turn.of_below hb)
theorem ModR.of_below {R : Nat} {w w1 : World} (hb : Below w.heap.size w w1) : ModR R w w1 := Turn.of_below hb
theorem ModR.alloc {R : Nat} {w w1 : World} (h : ModR R w w1) (o : Obj) : ModR R w (w1.alloc o) := h.trans (Turn.alloc _ _)
theorem ModR.set {R : Nat} {w w1 : World} (h : ModR R w w1) (o : Nat) (v : Value) : ModR R w (w1.setCell ⟨R, o, none⟩ v) := h.trans (Turn.setCell _ _ _ rfl)
theorem ModR.refl (R : Nat) (w : World) : ModR R w w := Turn.refl _ _ _
theorem ModR.trans {R : Nat} {w w1 w2 : World} (h : ModR R w w1) (k : ModR R w1 w2) : ModR R w w2 := Turn.trans h (k.mono h.size)
theorem ModR.size {R : Nat} {w w1 : World} (h : ModR R w w1) : w.heap.size ≤ w1.heap.size := Turn.size h
/-- A store into a new block. -/
theorem ModR.put {R : Nat} {w w1 : World} (h : ModR R w w1) {a : Addr} (ha : w.heap.size ≤ a.block) (v : Value) : ModR R w (w1.setCell a v) :=
  ⟨h.os, h.tape, h.output, by simpa [World.setCell] using Turn.size h, fun k o hk hc _ => (Below.heap_setCell w1 a v k (fun e => by have := (Array.getElem?_eq_some_iff.1 hk).1; omega)).trans (h.block k o hk hc (.inl (Array.getElem?_eq_some_iff.1 hk).1)), fun k c e fz hk => by
    obtain ⟨c', fz', h2⟩ := h.kinds k c e fz hk
    exact ⟨c', fz', (Below.heap_setCell w1 a v k (fun e => by have := (Array.getElem?_eq_some_iff.1 hk).1; omega)).trans h2⟩⟩
/-- An old block that is not the reader's. -/
theorem ModR.heap {R : Nat} {w w1 : World} (h : ModR R w w1) {k : Nat} {o : Obj} (hk : w.heap[k]? = some o) (hne : k ≠ R) : w1.heap[k]? = some o := h.block k o hk hne (.inl (Array.getElem?_eq_some_iff.1 hk).1)

set_option maxRecDepth 100000 in
theorem kind_any (R : Nat) (s : ByteArray) (p d k : Nat) (w : World) (hp : p ≤ 1000000) (hR : RA w R s p d) :
    Calls Tryz.prog 218 #[.pointer (some ⟨R, 0, none⟩), .int .i64 k] w fun e w' => e = .returned (.tuple #[tkV ⟨k, [], p⟩, .nilIface]) ∧ RA w' R s (p + 1) d ∧ ModR R w w' := by
  obtain ⟨r0, r1, r2, f0, f1, f2⟩ := hR.cells
  have hlt := hR.lt
  go_enter Tryz.func218, Tryz.ntmps218
  go_wp2
  refine bodyPost_ret (v := .tuple #[tkV ⟨k, [], p⟩, .nilIface]) (by simp [results, Tryz.results218, go_sem, tkV]) rfl ⟨rfl, ((hR.set1 (p + 1)).alloc _).alloc _, (((ModR.refl R w).set 1 _).alloc _).alloc _⟩

/-- What is carried: the reader, the block of the result. -/
structure Sx (w : World) (R : Nat) (s : ByteArray) (p d : Nat) (w' : World) : Prop where
  ra : RA w' R s p d
  md : ModR R w w'
  res : w'.heap[w.heap.size]? = some (.cells #[.int .i64 0, .string ⟨#[]⟩, .int .i64 0] 39)
theorem Sx.below {w : World} {R : Nat} {s : ByteArray} {p d : Nat} {w1 w2 : World} (h : Sx w R s p d w1) (hb : Below w1.heap.size w1 w2) : Sx w R s p d w2 := ⟨h.ra.below hb, h.md.below hb, heap_below h.res hb⟩
theorem Sx.mod {w : World} {R : Nat} {s : ByteArray} {p d p' d' : Nat} {w1 w2 : World} (h : Sx w R s p d w1) (hlt : R < w.heap.size) (hr : RA w2 R s p' d') (hm : ModR R w1 w2) : Sx w R s p' d' w2 := ⟨hr, h.md.trans hm, hm.heap h.res (by omega)⟩
theorem Sx.new {w : World} {R : Nat} {s : ByteArray} {p d : Nat} (h : RA w R s p d) : Sx w R s p d (w.alloc (.cells #[.int .i64 0, .string ⟨#[]⟩, .int .i64 0] 39)) := ⟨h.alloc _, (ModR.refl R w).alloc _, World.alloc_heap_new _ _⟩
theorem RA.far {w : World} {R : Nat} {s : ByteArray} {p d : Nat} (h : RA w R s p d) {a : Addr} (hne : R ≠ a.block) (v : Value) : RA (w.setCell a v) R s p d := (Below.heap_setCell w a v R hne).trans h
theorem Sx.alloc {w : World} {R : Nat} {s : ByteArray} {p d : Nat} {w1 : World} (h : Sx w R s p d w1) (o : Obj) : Sx w R s p d (w1.alloc o) := h.below ((Below.refl _ w1).alloc (Nat.le_refl _) o)
theorem Sx.cells {w : World} {R : Nat} {s : ByteArray} {p d : Nat} {w1 : World} (h : Sx w R s p d w1) : w1.cell? ⟨w.heap.size, 0, none⟩ = some (.int .i64 0) ∧ w1.cell? ⟨w.heap.size, 1, none⟩ = some (.string ⟨#[]⟩) ∧ w1.cell? ⟨w.heap.size, 2, none⟩ = some (.int .i64 0) ∧ w1.frozen? ⟨w.heap.size, 0, none⟩ = false ∧ w1.frozen? ⟨w.heap.size, 1, none⟩ = false ∧ w1.frozen? ⟨w.heap.size, 2, none⟩ = false := blk3 h.res
theorem Sx.fin {w : World} {R : Nat} {s : ByteArray} {p d : Nat} {w1 : World} (h : Sx w R s p d w1) (hlt : R < w.heap.size) (v0 v1 v2 : Value) :
    (((w1.setCell ⟨w.heap.size, 0, none⟩ v0).setCell ⟨w.heap.size, 1, none⟩ v1).setCell ⟨w.heap.size, 2, none⟩ v2).cell? ⟨w.heap.size, 0, none⟩ = some v0 ∧
    (((w1.setCell ⟨w.heap.size, 0, none⟩ v0).setCell ⟨w.heap.size, 1, none⟩ v1).setCell ⟨w.heap.size, 2, none⟩ v2).cell? ⟨w.heap.size, 1, none⟩ = some v1 ∧
    (((w1.setCell ⟨w.heap.size, 0, none⟩ v0).setCell ⟨w.heap.size, 1, none⟩ v1).setCell ⟨w.heap.size, 2, none⟩ v2).cell? ⟨w.heap.size, 2, none⟩ = some v2 ∧
    RA (((w1.setCell ⟨w.heap.size, 0, none⟩ v0).setCell ⟨w.heap.size, 1, none⟩ v1).setCell ⟨w.heap.size, 2, none⟩ v2) R s p d ∧ ModR R w (((w1.setCell ⟨w.heap.size, 0, none⟩ v0).setCell ⟨w.heap.size, 1, none⟩ v1).setCell ⟨w.heap.size, 2, none⟩ v2) := by
  have h0 := heap_setCell_same w1 w.heap.size 0 _ _ v0 h.res
  have h1 := heap_setCell_same _ w.heap.size 1 _ _ v1 h0
  have h2 := heap_setCell_same _ w.heap.size 2 _ _ v2 h1
  have h3 : (((w1.setCell ⟨w.heap.size, 0, none⟩ v0).setCell ⟨w.heap.size, 1, none⟩ v1).setCell ⟨w.heap.size, 2, none⟩ v2).heap[w.heap.size]? = some (.cells #[v0, v1, v2] 39) := h2
  obtain ⟨c0, c1, c2, _⟩ := blk3 h3
  exact ⟨c0, c1, c2, ((h.ra.far (a := ⟨w.heap.size, 0, none⟩) (Nat.ne_of_lt hlt) v0).far (a := ⟨w.heap.size, 1, none⟩) (Nat.ne_of_lt hlt) v1).far (a := ⟨w.heap.size, 2, none⟩) (Nat.ne_of_lt hlt) v2, ((h.md.put (a := ⟨w.heap.size, 0, none⟩) (Nat.le_refl _) v0).put (a := ⟨w.heap.size, 1, none⟩) (Nat.le_refl _) v1).put (a := ⟨w.heap.size, 2, none⟩) (Nat.le_refl _) v2⟩

theorem is_at (N : Nat) (R : Nat) (s : ByteArray) (p d : Nat) (z : Int) (i : Nat) (bs : List UInt8) (n cap : Nat) (fz : Nat × Nat) (w : World) (hN : w.heap.size = N) (hs : s.size ≤ 1000000) (hz : (p : Int) + z = (i : Int)) (hi : i ≤ 2000000) (hn : bs.length = n) (hbs : n ≤ 1000) (hR : RA w R s p d) :
    Calls Tryz.prog 92 #[.pointer (some ⟨R, 0, none⟩), .int .i64 z, .slice (some ⟨N, 0, none⟩) n cap] (w.alloc (.cells (bs.map fun c => Value.int .u8 ((c.toNat : Nat) : Int)).toArray 5 fz)) fun e w' => e = .returned (.bool (isB s.data.toList i bs)) ∧ Below w.heap.size w w' := by
  subst hN
  exact is_mark R s p d z i bs n cap fz w hs hz hi hn hbs hR

theorem Sx.set2 {w : World} {R : Nat} {s : ByteArray} {p d : Nat} {w1 : World} (h : Sx w R s p d w1) (hlt : R < w.heap.size) (d' : Nat) : Sx w R s p d' (w1.setCell ⟨R, 2, none⟩ (.int .i64 d')) :=
  ⟨h.ra.set2 d', h.md.set 2 _, (Below.heap_setCell w1 ⟨R, 2, none⟩ _ _ (by simp; omega)).trans h.res⟩
theorem Sx.set1 {w : World} {R : Nat} {s : ByteArray} {p d : Nat} {w1 : World} (h : Sx w R s p d w1) (hlt : R < w.heap.size) (p' : Nat) : Sx w R s p' d (w1.setCell ⟨R, 1, none⟩ (.int .i64 p')) :=
  ⟨h.ra.set1 p', h.md.set 1 _, (Below.heap_setCell w1 ⟨R, 1, none⟩ _ _ (by simp; omega)).trans h.res⟩

set_option maxRecDepth 100000 in
set_option maxHeartbeats 2000000 in
theorem opens_any (R : Nat) (s : ByteArray) (p d : Nat) (w : World) (hs : s.size ≤ 1000000) (hp : p < s.size) (hd : d ≤ 1000000) (hR : RA w R s p d) (c : UInt8) (hc : s[p]'hp = c) :
    Calls Tryz.prog 179 #[.pointer (some ⟨R, 0, none⟩)] w (PostT R s p (.ok (if c = 91 then 8 else 10) [] (p + 1) (d + 1)) w) := by
  have HB := hid (show isB s.data.toList p [91] = (c == 91) by rw [isB_one hp hc, byte_eq])
  clear hc
  obtain ⟨kk, hkk⟩ : ∃ kk, (if c = 91 then 8 else 10) = kk := ⟨_, rfl⟩
  rw [hkk]
  have HK := hid hkk
  clear hkk
  have hlt := hR.lt
  obtain ⟨r0, r1, r2, f0, f1, f2⟩ := hR.cells
  have hI := fun wx hn hx => is_at (w.heap.size + 1) R s p (d + 1) 0 p [91] 1 1 (0, 0) wx hn hs (by omega) (by omega) rfl (by omega) hx
  rw [HB.out] at hI
  have hK := fun wx hx k => kind_any R s p (d + 1) k wx (by omega) hx
  have hS1 : Sx w R s p (d + 1) ((w.setCell ⟨R, 2, none⟩ (.int .i64 ((d : Int) + 1))).alloc (.cells #[.int .i64 0, .string ⟨#[]⟩, .int .i64 0] 39)) := by
    have h := Sx.new (hR.set2 (d + 1))
    exact ⟨h.ra, ((ModR.refl R w).set 2 _).alloc _, by have := h.res; simpa [World.setCell] using this⟩
  go_enter Tryz.func179, Tryz.ntmps179
  go_wp2_with fail
  refine (hI _ (by simp [World.setCell]) hS1.ra).mono ?_
  rintro e w1 ⟨rfl, hb1⟩
  have hS2 := hS1.below hb1
  clear hI hS1 hb1 r0 r1 r2 f0 f1 f2
  by_cases h91 : c = 91
  · have HP := hid (show kk = 8 by rw [← HK.out, if_pos h91])
    have hq : (c == 91) = true := by simpa using h91
    clear h91 HB HK
    go_wp2_with fail
    refine (hK _ hS2.ra 8).mono ?_
    rintro e w2 ⟨rfl, hr2, hm2⟩
    have hS3 := hS2.mod hlt hr2 hm2
    clear hK hS2 hr2 hm2
    obtain ⟨n0, n1, n2, g0, g1, g2⟩ := hS3.cells
    unfold tkV
    go_wp2
    obtain ⟨e0, e1, e2, e3, e4⟩ := hS3.fin hlt (.int .i64 8) (.string ⟨#[]⟩) (.int .i64 p)
    refine bodyPost_ret (v := .tuple #[tkV ⟨8, [], p⟩, .nilIface]) (by simp [results, Tryz.results179, go_sem, tkV, e0, e1, e2]) rfl (PostT.ok (by rw [HP.out]) rfl e3 e4)
  · have HP := hid (show kk = 10 by rw [← HK.out, if_neg h91])
    have hq : (c == 91) = false := by simpa using h91
    clear h91 HB HK
    go_wp2_with fail
    refine (hK _ hS2.ra 10).mono ?_
    rintro e w2 ⟨rfl, hr2, hm2⟩
    have hS3 := hS2.mod hlt hr2 hm2
    clear hK hS2 hr2 hm2
    obtain ⟨n0, n1, n2, g0, g1, g2⟩ := hS3.cells
    unfold tkV
    go_wp2
    obtain ⟨e0, e1, e2, e3, e4⟩ := hS3.fin hlt (.int .i64 10) (.string ⟨#[]⟩) (.int .i64 p)
    refine bodyPost_ret (v := .tuple #[tkV ⟨10, [], p⟩, .nilIface]) (by simp [results, Tryz.results179, go_sem, tkV, e0, e1, e2]) rfl (PostT.ok (by rw [HP.out]) rfl e3 e4)

/-! ### the signs inside -/
def encU (r : Int) : Value := .int .u8 r
def insL : List (Int × Value) := [(44, .int .i64 7), (93, .int .i64 9), (125, .int .i64 11)]
def insObj (k : Nat) : Obj := mapObj encU (insL.take k)
theorem sameU (a b : Int) : Instr.sameNow (.int .u8) (encU a) (encU b) = some (a == b) := rfl
theorem isKeyU (a : Int) : MapKept.IsKey (.int .u8) (encU a) := by unfold encU; simp [MapKept.IsKey]
theorem run_ins_at (w : World) (k : Nat) (a : Int) (v : Value) (h : assoc a (insL.take k) = none) (hk : insL.take (k + 1) = insL.take k ++ [(a, v)]) :
    (Instr.mapUpdate 313 (.map (some w.heap.size)) (.int .u8 a) v).run Tryz.prog (w.alloc (insObj k)) = .ok () (w.alloc (insObj (k + 1))) := by
  unfold insObj
  rw [hk]
  have := run_put_list (P := Tryz.prog) (enc := encU) sameU isKeyU (t := 313) (k := 5) (e := 3) (w := w.alloc (mapObj encU (insL.take k))) (l := insL.take k) Tryz.underlying313 Tryz.underlying5 (World.alloc_heap_new w _) a v h
  rw [putObj_new] at this
  exact this
theorem look_ins (c : Int) (w : World) (b : Nat) (hb : w.heap[b]? = some (insObj 3)) :
    (Instr.lookup 313 (.map (some b)) (.int .u8 c) false).run Tryz.prog w = .ok ((assoc c insL).getD (.int .i64 0)) w :=
  run_lookup_list (P := Tryz.prog) (enc := encU) sameU isKeyU (k := 5) (e := 3) (l := insL) (z := .int .i64 0) Tryz.underlying313 Tryz.underlying5 (by kernel_rfl) hb c false

set_option maxRecDepth 100000 in
set_option maxHeartbeats 2000000 in
theorem inside_any (R : Nat) (s : ByteArray) (p d : Nat) (w : World) (hs : s.size ≤ 1000000) (hp : p < s.size) (hd : d ≤ 1000000) (hR : RA w R s p d) (c : UInt8) (hc : s[p]'hp = c) (hcc : c = 44 ∨ c = 93 ∨ c = 125) :
    Calls Tryz.prog 180 #[.pointer (some ⟨R, 0, none⟩)] w (PostT R s p (insideT c p d) w) := by
  obtain ⟨k, hk, HQ⟩ : ∃ k : Nat, assoc (c.toNat : Int) insL = some (.int .i64 k) ∧ Hid (0 < d → insideT c p d = .ok k [] (p + 1) (if k = 7 then d else d - 1)) := by
    rcases hcc with rfl | rfl | rfl
    · exact ⟨7, rfl, hid fun hd => by unfold insideT; rw [if_neg (by omega), if_pos rfl]; rfl⟩
    · exact ⟨9, rfl, hid fun hd => by unfold insideT; rw [if_neg (by omega), if_neg (by decide)]; rfl⟩
    · exact ⟨11, rfl, hid fun hd => by unfold insideT; rw [if_neg (by omega), if_neg (by decide)]; rfl⟩
  have HZ := hid (show d = 0 → insideT c p d = .bad 90 from fun h => by unfold insideT; rw [if_pos h])
  clear hcc
  obtain ⟨r, hr⟩ : ∃ r, insideT c p d = r := ⟨_, rfl⟩
  rw [hr] at HQ HZ ⊢
  clear hr
  have hlt := hR.lt
  have hmm := @run_makeMap Tryz.prog
  have h0 := run_ins_at (w.alloc (.cells #[.int .i64 0, .string ⟨#[]⟩, .int .i64 0] 39)) 0 44 (.int .i64 7) rfl rfl
  have h1 := run_ins_at (w.alloc (.cells #[.int .i64 0, .string ⟨#[]⟩, .int .i64 0] 39)) 1 93 (.int .i64 9) (by decide +kernel) rfl
  have h2 := run_ins_at (w.alloc (.cells #[.int .i64 0, .string ⟨#[]⟩, .int .i64 0] 39)) 2 125 (.int .i64 11) (by decide +kernel) rfl
  rw [World.size_alloc, show insObj 0 = .map #[] 0 from rfl] at h0
  rw [World.size_alloc] at h1 h2
  obtain ⟨r0, r1, r2, f0, f1, f2⟩ := hR.cells
  have hlk : ∀ n, (Instr.lookup 313 (.map (some (w.heap.size + 1))) (.int .u8 (c.toNat : Int)) false).run Tryz.prog (((w.alloc (.cells #[.int .i64 0, .string ⟨#[]⟩, .int .i64 0] 39)).alloc (insObj 3)).drewN n) = .ok (.int .i64 k) (((w.alloc (.cells #[.int .i64 0, .string ⟨#[]⟩, .int .i64 0] 39)).alloc (insObj 3)).drewN n) := fun n => by
    have h := look_ins (c.toNat : Int) (((w.alloc (.cells #[.int .i64 0, .string ⟨#[]⟩, .int .i64 0] 39)).alloc (insObj 3)).drewN n) (w.heap.size + 1) (by have := World.alloc_heap_new (w.alloc (.cells #[.int .i64 0, .string ⟨#[]⟩, .int .i64 0] 39)) (insObj 3); simpa using this)
    rw [hk] at h
    exact h
  have hS1 : Sx w R s p d ((w.alloc (.cells #[.int .i64 0, .string ⟨#[]⟩, .int .i64 0] 39)).alloc (insObj 3)) := (Sx.new hR).alloc _
  have HK := hid hk
  clear hk
  have hpi : (p : Int) < (s.size : Int) := by omega
  have hK := fun wx dx hx => kind_any R s p dx k wx (by omega) hx
  go_enter Tryz.func180, Tryz.ntmps180
  go_wp2
  go_quiet (fail)
  have hS2 : Sx w R s p d (((w.alloc (.cells #[.int .i64 0, .string ⟨#[]⟩, .int .i64 0] 39)).alloc (insObj 3)).drewN nq) := hS1.below (below_drewN (Below.refl _ _))
  clear hS1 h0 h1 h2 hmm hlk r0 r1 r2 f0 f1 f2
  revert hS2
  generalize ((w.alloc (.cells #[.int .i64 0, .string ⟨#[]⟩, .int .i64 0] 39)).alloc (insObj 3)).drewN nq = W1
  intro hS2
  by_cases hd0 : d = 0
  · subst hd0
    obtain ⟨r0, r1, r2, f0, f1, f2⟩ := hS2.ra.cells
    obtain ⟨n0, n1, n2, g0, g1, g2⟩ := hS2.cells
    go_wp2
    obtain ⟨e0, e1, e2, e3, e4⟩ := hS2.fin hlt (.int .i64 0) (.string ⟨#[]⟩) (.int .i64 0)
    refine bodyPost_ret (v := .tuple #[tkV ⟨0, [], 0⟩, .iface 181 (.agg #[.int .i64 90])]) (by simp [results, Tryz.results180, go_sem, tkV, e0, e1, e2]) rfl (PostT.bad (HZ.out (by first | rfl | trivial)) rfl e4)
  · obtain ⟨d1, rfl⟩ : ∃ d1, d = d1 + 1 := ⟨d - 1, by omega⟩
    have hde : (((d1 + 1 : Nat) : Int) == 0) = false := by rw [beq_eq_false_iff_ne]; omega
    obtain ⟨r0, r1, r2, f0, f1, f2⟩ := hS2.ra.cells
    by_cases hk7 : k = 7
    · subst hk7
      go_wp2_with fail
      refine (hK _ _ hS2.ra).mono ?_
      rintro e w2 ⟨rfl, hr2, hm2⟩
      have hS3 := hS2.mod hlt hr2 hm2
      clear hK hS2 hr2 hm2 r0 r1 r2 f0 f1 f2
      obtain ⟨n0, n1, n2, g0, g1, g2⟩ := hS3.cells
      unfold tkV
      go_wp2
      obtain ⟨e0, e1, e2, e3, e4⟩ := hS3.fin hlt (.int .i64 7) (.string ⟨#[]⟩) (.int .i64 p)
      refine bodyPost_ret (v := .tuple #[tkV ⟨7, [], p⟩, .nilIface]) (by simp [results, Tryz.results180, go_sem, tkV, e0, e1, e2]) rfl (PostT.ok (HQ.out (by omega)) rfl e3 e4)
    · have hkn : ((k : Int) == 7) = false := by rw [beq_eq_false_iff_ne]; omega
      have HK7 := hid hk7
      clear hk7
      have hS2b := hS2.set2 hlt d1
      go_wp2_with fail
      refine (hK _ _ hS2b.ra).mono ?_
      rintro e w2 ⟨rfl, hr2, hm2⟩
      have hS3 := hS2b.mod hlt hr2 hm2
      clear hK hS2 hS2b hr2 hm2 r0 r1 r2 f0 f1 f2
      obtain ⟨n0, n1, n2, g0, g1, g2⟩ := hS3.cells
      unfold tkV
      go_wp2
      obtain ⟨e0, e1, e2, e3, e4⟩ := hS3.fin hlt (.int .i64 k) (.string ⟨#[]⟩) (.int .i64 p)
      refine bodyPost_ret (v := .tuple #[tkV ⟨k, [], p⟩, .nilIface]) (by simp [results, Tryz.results180, go_sem, tkV, e0, e1, e2]) rfl (PostT.ok ((HQ.out (by omega)).trans (by rw [if_neg HK7.out]; rfl)) rfl e3 e4)
end Go.Proofs.YtiinnnbpbnojgaaGreatDoor
