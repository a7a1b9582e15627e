/- What is proved: package tok's small functions: which bytes stand at a place, blanks, notes, closed places. -/
import Derived.Test.YtiinnnbpbnojgaaGreatDoorQh
import Derived.Test.YtiinnnbpbnojgaaGreatDoorKa
import Derived.Test.YtiinnnbpbnojgaaGreatDoorMc
import Derived.Deep.QuietTactic
import Derived.BigQuiet
import Derived.Deep.RegionHeld3
import Derived.Lib.SlBytesConst
namespace Go.Proofs.YtiinnnbpbnojgaaGreatDoor
open Go Go.RowKit Go.Lib
set_option linter.unusedSimpArgs false
set_option linter.unusedVariables false

def IdxPost (bs : List UInt8) (c : UInt8) (w : World) (e : Ending) (w' : World) : Prop := ∃ k : Int, e = .returned (.int .i64 k) ∧ decide (0 ≤ k) = amongB bs c ∧ w' = w

theorem index_u8 (bs : List UInt8) (c : UInt8) (b cap : Nat) (w : World) (hs : bs.length ≤ 1000) (hc : ∀ i, i < bs.length → w.cell? ⟨b, i, none⟩ = some (.int .u8 (((bs.getD i 0).toNat : Nat) : Int))) :
    Calls Tryz.prog 174 #[.slice (some ⟨b, 0, none⟩) bs.length cap, .int .u8 ((c.toNat : Nat) : Int)] w (IdxPost bs c w) := by
  obtain ⟨n, hn⟩ : ∃ n, bs.length = n := ⟨_, rfl⟩
  rw [hn] at hs hc ⊢
  have HN := hid hn
  clear hn
  have hcb : (c.toNat : Int) < 256 := by have := c.toNat_lt; omega
  go_enter Tryz.func174, Tryz.ntmps174
  go_wp2
  go_loop [8] (fun i => ∃ k : Nat, k ≤ n ∧ i = .int .i64 k ∧ Hid (amongB (bs.take k) c = false)) (fun i => n - (intOf i).toNat)
  case atStart => exact ⟨0, by omega, rfl, hid rfl⟩
  case round =>
    obtain ⟨k, hk, rfl, HF⟩ := hrel
    by_cases hlt : k < n
    · have hck := hc k hlt
      obtain ⟨d, hd⟩ : ∃ d, bs.getD k 0 = d := ⟨_, rfl⟩
      rw [hd] at hck
      have HT := hid (show amongB (bs.take (k + 1)) c = (amongB (bs.take k) c || c == d) by
        rw [contains_take (by rw [HN.out]; exact hlt), ← hd, List.getD, List.getElem?_eq_getElem (by rw [HN.out]; exact hlt)]; rfl)
      have HA := hid (show c = d → amongB bs c = true from fun e => amongB_iff.2 (by rw [e, ← hd, List.getD, List.getElem?_eq_getElem (by rw [HN.out]; exact hlt)]; exact List.getElem_mem _))
      clear hc hd
      by_cases hcd : c = d
      · have HA' := hid (HA.out hcd)
        subst hcd
        clear HA HT
        go_wp2
        go_ret
        exact ⟨k, rfl, by rw [HA'.out]; simp, rfl⟩
      · have hne : ((c.toNat : Int) == (d.toNat : Int)) = false := by
          rw [← Bool.not_eq_true, beq_iff_eq]
          intro h; exact hcd (UInt8.toNat_inj.1 (by omega))
        have HF' := hid (show amongB (bs.take (k + 1)) c = false by rw [HT.out, HF.out, Bool.false_or, beq_eq_false_iff_ne]; exact hcd)
        clear hcd HA HT
        go_wp2
        go_round
        case rel => exact ⟨k + 1, by omega, by go_num, HF'⟩
        case measure => simp [intOf]; omega
    · go_wp2
      go_ret
      have h := HF.out
      rw [List.take_of_length_le (by rw [HN.out]; omega)] at h
      exact ⟨-1, rfl, by rw [h]; rfl, rfl⟩

theorem contains_u8 (bs : List UInt8) (c : UInt8) (b cap : Nat) (w : World) (hs : bs.length ≤ 1000) (hc : ∀ i, i < bs.length → w.cell? ⟨b, i, none⟩ = some (.int .u8 (((bs.getD i 0).toNat : Nat) : Int))) :
    Calls Tryz.prog 139 #[.slice (some ⟨b, 0, none⟩) bs.length cap, .int .u8 ((c.toNat : Nat) : Int)] w fun e w' => e = .returned (.bool (amongB bs c)) ∧ w' = w := by
  have hI := index_u8 bs c b cap w hs hc
  clear hc
  go_enter Tryz.func139, Tryz.ntmps139
  go_wp2_with fail
  refine hI.mono ?_
  rintro e w1 ⟨k, rfl, hk, hw⟩
  subst w1
  have HK := hid hk
  clear hk
  go_wp2
  go_ret
  exact ⟨by rw [← HK.out]; rfl, rfl⟩

/-- A reader's block: its text, its place, how deep. -/
def RA (w : World) (R : Nat) (s : ByteArray) (p d : Nat) : Prop := w.heap[R]? = some (.cells #[.string s, .int .i64 p, .int .i64 d] 136)
theorem RA.below {w w' : World} {R : Nat} {s : ByteArray} {p d : Nat} (h : RA w R s p d) (hb : Below w.heap.size w w') : RA w' R s p d := heap_below h hb
theorem RA.cells {w : World} {R : Nat} {s : ByteArray} {p d : Nat} (h : RA w R s p d) : w.cell? ⟨R, 0, none⟩ = some (.string s) ∧ w.cell? ⟨R, 1, none⟩ = some (.int .i64 p) ∧ w.cell? ⟨R, 2, none⟩ = some (.int .i64 d) ∧ w.frozen? ⟨R, 0, none⟩ = false ∧ w.frozen? ⟨R, 1, none⟩ = false ∧ w.frozen? ⟨R, 2, none⟩ = false := blk3 h
theorem RA.alloc {w : World} {R : Nat} {s : ByteArray} {p d : Nat} (h : RA w R s p d) (o : Obj) : RA (w.alloc o) R s p d := h.below ((Below.refl _ w).alloc (Nat.le_refl _) o)
theorem RA.lt {w : World} {R : Nat} {s : ByteArray} {p d : Nat} (h : RA w R s p d) : R < w.heap.size := (Array.getElem?_eq_some_iff.1 h).1

theorem isB_lt {s : ByteArray} {i : Nat} (hlt : i < s.size) (bs : List UInt8) : isB s.data.toList i bs = amongB bs (s[i]'hlt) := by
  unfold isB
  rw [getD_byte s i hlt, ← Lib.size_eq]
  simp [hlt]
theorem isB_ge {s : ByteArray} {i : Nat} (hlt : ¬ i < s.size) (bs : List UInt8) : isB s.data.toList i bs = false := by
  unfold isB
  rw [← Lib.size_eq]
  simp [hlt]
theorem byteRow_cell (w : World) (bs : List UInt8) (fz : Nat × Nat) (i : Nat) (hi : i < bs.length) : (w.alloc (.cells (bs.map fun c => Value.int .u8 ((c.toNat : Nat) : Int)).toArray 5 fz)).cell? ⟨w.heap.size, i, none⟩ = some (.int .u8 (((bs.getD i 0).toNat : Nat) : Int)) := by
  have h := World.alloc_heap_new w (.cells (bs.map fun c => Value.int .u8 ((c.toNat : Nat) : Int)).toArray 5 fz)
  unfold World.cell?
  rw [h]
  simp [List.getD, hi]

set_option maxRecDepth 100000 in
theorem is_any (R : Nat) (s : ByteArray) (p d : Nat) (z : Int) (i : Nat) (bs : List UInt8) (b cap : Nat) (w : World) (hs : s.size ≤ 1000000) (hz : (p : Int) + z = (i : Int)) (hi : i ≤ 2000000) (hbs : bs.length ≤ 1000) (hR : RA w R s p d)
    (hc : ∀ i, i < bs.length → w.cell? ⟨b, i, none⟩ = some (.int .u8 (((bs.getD i 0).toNat : Nat) : Int))) :
    Calls Tryz.prog 92 #[.pointer (some ⟨R, 0, none⟩), .int .i64 z, .slice (some ⟨b, 0, none⟩) bs.length cap] w fun e w' => e = .returned (.bool (isB s.data.toList i bs)) ∧ w' = w := by
  obtain ⟨r0, r1, _, _⟩ := hR.cells
  obtain ⟨L, hL⟩ : ∃ L, bs.length = L := ⟨_, rfl⟩
  by_cases hlt : i < s.size
  · obtain ⟨c, hcc⟩ : ∃ c, s[i]'hlt = c := ⟨_, rfl⟩
    have hC := contains_u8 bs c b cap w hbs hc
    have hV : isB s.data.toList i bs = amongB bs c := by rw [isB_lt hlt, hcc]
    rw [hV]
    rw [hL] at hC ⊢
    have hlti : (i : Int) < (s.size : Int) := by omega
    clear hc hV hR hL
    go_enter Tryz.func92, Tryz.ntmps92
    go_wp2_with fail
    refine hC.mono ?_
    rintro e w1 ⟨rfl, hw⟩
    subst w1
    go_wp2
    go_ret
    exact ⟨rfl, rfl⟩
  · rw [isB_ge hlt]
    have hge : ¬ (i : Int) < (s.size : Int) := by omega
    clear hc hR hL
    go_enter Tryz.func92, Tryz.ntmps92
    go_wp2
    go_ret
    exact ⟨rfl, rfl⟩

/-- .. over a row that has just been laid. -/
theorem is_mark (R : Nat) (s : ByteArray) (p d : Nat) (z : Int) (i : Nat) (bs : List UInt8) (n cap : Nat) (fz : Nat × Nat) (w : World) (hs : s.size ≤ 1000000) (hz : (p : Int) + z = (i : Int)) (hi : i ≤ 2000000) (hn : bs.length = n) (hbs : n ≤ 1000) (hR : RA w R s p d) :
    Calls Tryz.prog 92 #[.pointer (some ⟨R, 0, none⟩), .int .i64 z, .slice (some ⟨w.heap.size, 0, none⟩) n cap] (w.alloc (.cells (bs.map fun c => Value.int .u8 ((c.toNat : Nat) : Int)).toArray 5 fz)) fun e w' => e = .returned (.bool (isB s.data.toList i bs)) ∧ Below w.heap.size w w' := by
  subst hn
  refine (is_any R s p d z i bs w.heap.size cap _ hs hz hi hbs (hR.alloc _) (byteRow_cell w bs fz)).mono ?_
  rintro e w' ⟨rfl, hw⟩
  subst w'
  exact ⟨rfl, (Below.refl _ w).alloc (Nat.le_refl _) _⟩
theorem is_new (R : Nat) (s : ByteArray) (p d : Nat) (z : Int) (i : Nat) (bs : List UInt8) (n cap : Nat) (w : World) (hs : s.size ≤ 1000000) (hz : (p : Int) + z = (i : Int)) (hi : i ≤ 2000000) (hn : bs.length = n) (hbs : n ≤ 1000) (hR : RA w R s p d) :
    Calls Tryz.prog 92 #[.pointer (some ⟨R, 0, none⟩), .int .i64 z, .slice (some ⟨w.heap.size, 0, none⟩) n cap] (w.alloc (.cells (bs.map fun c => Value.int .u8 ((c.toNat : Nat) : Int)).toArray 5)) fun e w' => e = .returned (.bool (isB s.data.toList i bs)) ∧ Below w.heap.size w w' :=
  is_mark R s p d z i bs n cap (0, 0) w hs hz hi hn hbs hR

/-- What is held of the world while a line is reckoned. -/
def HeldR (w : World) (R : Nat) (s : ByteArray) (p d : Nat) (w' : World) : Prop := Below w.heap.size w w' ∧ RA w' R s p d
theorem HeldR.refl {w : World} {R : Nat} {s : ByteArray} {p d : Nat} (h : RA w R s p d) : HeldR w R s p d w.drew := ⟨(Below.refl _ w).drew, h⟩
theorem HeldR.step {w : World} {R : Nat} {s : ByteArray} {p d : Nat} {w1 w2 : World} (h : HeldR w R s p d w1) (hb : Below w1.heap.size w1 w2) : HeldR w R s p d w2 :=
  ⟨h.1.trans (hb.mono h.1.size), h.2.below hb⟩
theorem HeldR.alloc {w : World} {R : Nat} {s : ByteArray} {p d : Nat} {w1 : World} (h : HeldR w R s p d w1) (o : Obj) : HeldR w R s p d (w1.alloc o) := h.step ((Below.refl _ w1).alloc (Nat.le_refl _) o)
theorem HeldR.all {w : World} {R : Nat} {s : ByteArray} {p d : Nat} {w' : World} (h : HeldR w R s p d w') : w'.cell? ⟨R, 0, none⟩ = some (.string s) ∧ w'.cell? ⟨R, 1, none⟩ = some (.int .i64 p) ∧ w'.cell? ⟨R, 2, none⟩ = some (.int .i64 d) := ⟨h.2.cells.1, h.2.cells.2.1, h.2.cells.2.2.1⟩

set_option maxRecDepth 100000 in
theorem isBlank_any (R : Nat) (s : ByteArray) (p d : Nat) (z i : Nat) (w : World) (hs : s.size ≤ 1000000) (hz : p + z = i) (hi : i ≤ 2000000) (hR : RA w R s p d) :
    Calls Tryz.prog 217 #[.pointer (some ⟨R, 0, none⟩), .int .i64 z] w fun e w' => e = .returned (.bool (blankB s.data.toList i)) ∧ Below w.heap.size w w' := by
  obtain ⟨r0, r1, r2, _⟩ := hR.cells
  have hz' : (p : Int) + (z : Int) = (i : Int) := by omega
  by_cases hlt : i < s.size
  · have hV : blankB s.data.toList i = isB s.data.toList i [32] := by unfold blankB; rw [← Lib.size_eq, decide_eq_false (by omega)]; rfl
    rw [hV]
    have hd : decide ((s.size : Int) ≤ (i : Int)) = false := by simp; omega
    have hd2 : decide (s.size ≤ i) = false := by simp; omega
    have hw : IntKind.i64.wrap (i : Int) = (i : Int) := IntWalk.i64_in _ (by omega)
    have hH := HeldR.refl hR
    go_enter Tryz.func217, Tryz.ntmps217
    go_wp2
    go_region_held3 (fun w' => w'.cell? ⟨R, 0, none⟩ = some (.string s) ∧ w'.cell? ⟨R, 1, none⟩ = some (.int .i64 p) ∧ w'.cell? ⟨R, 2, none⟩ = some (.int .i64 d)) (first | exact HeldR.all (by assumption) | exact HeldR.all (HeldR.alloc (by assumption) _)) (first | (go_at_call 92; refine (is_new R s p d z i [32] 1 _ _ hs hz' hi rfl (by omega) (And.right (a := Below w.heap.size w _) (by assumption))).mono ?_; rintro e wz ⟨rfl, hb⟩; have hz : HeldR w R s p d wz := HeldR.step (by assumption) hb))
    go_wp2
    go_ret
    exact ⟨rfl, hz.1⟩
  · have hV : blankB s.data.toList i = true := by unfold blankB; rw [← Lib.size_eq, decide_eq_true (by omega)]; rfl
    rw [hV]
    have hd : decide ((s.size : Int) ≤ (i : Int)) = true := by simp; omega
    have hd2 : decide (s.size ≤ i) = true := by simp; omega
    have hw : IntKind.i64.wrap (i : Int) = (i : Int) := IntWalk.i64_in _ (by omega)
    have hH := HeldR.refl hR
    go_enter Tryz.func217, Tryz.ntmps217
    go_wp2
    go_quiet (fail)
    go_wp2
    go_ret
    exact ⟨rfl, below_drewN (Below.refl _ _)⟩

set_option maxRecDepth 100000 in
theorem isNote_any (R : Nat) (s : ByteArray) (p d : Nat) (w : World) (hs : s.size ≤ 1000000) (hp : p ≤ 1000000) (hR : RA w R s p d) :
    Calls Tryz.prog 93 #[.pointer (some ⟨R, 0, none⟩)] w fun e w' => e = .returned (.bool (noteB s.data.toList p)) ∧ Below w.heap.size w w' := by
  have hI1 := fun wx hx => is_new R s p d 0 p [35] 1 1 wx hs (by omega) (by omega) rfl (by omega) hx
  cases h1 : isB s.data.toList p [35] with
  | false =>
    rw [h1] at hI1
    have HV := hid (show noteB s.data.toList p = false by unfold noteB; rw [h1]; rfl)
    clear h1
    go_enter Tryz.func93, Tryz.ntmps93
    go_wp2_with fail
    refine (hI1 _ hR).mono ?_
    rintro e w1 ⟨rfl, hb1⟩
    clear hI1
    go_wp2
    go_ret
    exact ⟨by rw [HV.out]; rfl, hb1⟩
  | true =>
    rw [h1] at hI1
    by_cases h0 : p = 0
    · have HV := hid (show noteB s.data.toList p = true by unfold noteB; rw [h1, h0]; rfl)
      subst h0
      clear h1
      go_enter Tryz.func93, Tryz.ntmps93
      go_wp2_with fail
      refine (hI1 _ hR).mono ?_
      rintro e w1 ⟨rfl, hb1⟩
      clear hI1
      obtain ⟨r0, r1, r2, _⟩ := (hR.below hb1).cells
      go_wp2
      go_ret
      exact ⟨by rw [HV.out]; rfl, hb1⟩
    · obtain ⟨k, rfl⟩ : ∃ k, p = k + 1 := ⟨p - 1, by omega⟩
      have hI2 := fun wx hx => is_new R s (k + 1) d (-1) k [32] 1 1 wx hs (by omega) (by omega) rfl (by omega) hx
      have HV := hid (show noteB s.data.toList (k + 1) = isB s.data.toList k [32] by unfold noteB; rw [h1, show k + 1 - 1 = k from rfl]; simp)
      have hne : (((k + 1 : Nat) : Int) == 0) = false := by rw [beq_eq_false_iff_ne]; omega
      clear h0 h1
      obtain ⟨q, hq⟩ : ∃ q, k + 1 = q := ⟨_, rfl⟩
      rw [hq] at hI1 hI2 HV hR hne hp ⊢
      clear hq
      go_enter Tryz.func93, Tryz.ntmps93
      go_wp2_with fail
      refine (hI1 _ hR).mono ?_
      rintro e w1 ⟨rfl, hb1⟩
      clear hI1
      have hR1 := hR.below hb1
      obtain ⟨r0, r1, r2, _⟩ := hR1.cells
      go_wp2_with fail
      refine (hI2 _ hR1).mono ?_
      rintro e w2 ⟨rfl, hb2⟩
      clear hI2
      go_wp2
      go_ret
      exact ⟨by rw [HV.out]; rfl, hb1.trans (hb2.mono hb1.size)⟩

set_option maxRecDepth 100000 in
theorem isClosed_any (R : Nat) (s : ByteArray) (p d : Nat) (z i : Nat) (w : World) (hs : s.size ≤ 1000000) (hz : p + z = i) (hi : i ≤ 2000000) (hR : RA w R s p d) :
    Calls Tryz.prog 213 #[.pointer (some ⟨R, 0, none⟩), .int .i64 z] w fun e w' => e = .returned (.bool (closedB s.data.toList i d)) ∧ Below w.heap.size w w' := by
  have hB := fun wx hx => isBlank_any R s p d z i wx hs hz hi hx
  have hI := fun wx hx => is_mark R s p d z i flowL 5 5 (5, 6) wx hs (by omega) hi rfl (by omega) hx
  have hcv := fun (w : World) (C : Array Value) (n c : Nat) => Lib.run_convert_bytes_const (P := Tryz.prog) w 117 5 C n c Tryz.underlying117 Tryz.underlying5
  cases hb : blankB s.data.toList i with
  | true =>
    rw [hb] at hB
    have HV := hid (show closedB s.data.toList i d = true by unfold closedB; rw [hb]; rfl)
    clear hb hz
    go_enter Tryz.func213, Tryz.ntmps213
    go_wp2_with fail
    refine (hB _ hR).mono ?_
    rintro e w1 ⟨rfl, hb1⟩
    clear hB hI
    go_wp2
    go_ret
    exact ⟨by rw [HV.out]; rfl, hb1⟩
  | false =>
    rw [hb] at hB
    have HV := hid (show closedB s.data.toList i d = (decide (0 < d) && isB s.data.toList i flowL) by unfold closedB; rw [hb]; rfl)
    clear hb hz
    by_cases hd : 0 < d
    · have hdi : (0 : Int) < (d : Int) := by omega
      rw [show decide (0 < d) = true by simpa using hd] at HV
      go_enter Tryz.func213, Tryz.ntmps213
      go_wp2_with fail
      refine (hB _ hR).mono ?_
      rintro e w1 ⟨rfl, hb1⟩
      clear hB
      have hR1 := hR.below hb1
      obtain ⟨r0, r1, r2, _⟩ := hR1.cells
      go_wp2_with fail
      refine (hI _ hR1).mono ?_
      rintro e w2 ⟨rfl, hb2⟩
      clear hI
      go_wp2
      go_ret
      exact ⟨by rw [HV.out]; rfl, hb1.trans (hb2.mono hb1.size)⟩
    · have hdi : ¬ (0 : Int) < (d : Int) := by omega
      rw [show decide (0 < d) = false by simpa using hd] at HV
      go_enter Tryz.func213, Tryz.ntmps213
      go_wp2_with fail
      refine (hB _ hR).mono ?_
      rintro e w1 ⟨rfl, hb1⟩
      clear hB hI
      obtain ⟨r0, r1, r2, _⟩ := (hR.below hb1).cells
      go_wp2
      go_ret
      exact ⟨by rw [HV.out]; rfl, hb1⟩
end Go.Proofs.YtiinnnbpbnojgaaGreatDoor
