/- What is proved: a part of the walk of the program and of its plain laws; no condition beside those that each theorem names. -/
import Derived.Test.YtaogfdffgdglkaaGreatDoorYh
import Derived.Test.YtaogfdffgdglkaaGreatDoorYi
import Derived.Test.YtaogfdffgdglkaaGreatDoorYj
import Derived.Test.YtaogfdffgdglkaaGreatDoorYa
import Derived.Deep.QuietTactic
import Derived.BigQuiet
import Derived.Deep.RegionHeld3
import Derived.Lib.SlBytesConst
import Derived.Deep.DeepCutAuto
import Derived.Deep.CutRange
import Derived.Deep.LoopGhost
namespace Go.Proofs.YtaogfdffgdglkaaGreatDoor
open Go Go.RowKit Go.Lib
set_option linter.unusedSimpArgs false
set_option linter.unusedVariables false
section
set_option maxRecDepth 100000
def TY (bs : List UInt8) (c : UInt8) (w : World) (e : Ending) (w' : World) : Prop := ∃ k : Int, e = .returned (.int .i64 k) /\ decide (0 <= k) = Bm bs c /\ w' = w
theorem Sp (bs : List UInt8) (c : UInt8) (b cap : Nat) (w : World) (hs : bs.length <= 1000) (hc : ∀ i, i < bs.length -> w.cell? ⟨b, i, none⟩ = some (.int .u8 (((bs.getD i 0).toNat : Nat) : Int))) :
  Calls Tryz.prog 155 #[.slice (some ⟨b, 0, none⟩) bs.length cap, .int .u8 ((c.toNat : Nat) : Int)] w (TY bs c w) := by
 obtain ⟨n, hn⟩ : ∃ n, bs.length = n := ⟨_, rfl⟩
 rw [hn] at hs hc |-
 have HN := hid hn
 clear hn
 have hcb : (c.toNat : Int) < 256 := by have := c.toNat_lt; omega
 go_enter Tryz.func155, Tryz.ntmps155
 go_wp2
 go_loop [8] (fun i => ∃ k : Nat, k <= n /\ i = .int .i64 k /\ Hid (Bm (bs.take k) c = false)) (fun i => n - (intOf i).toNat)
 case atStart => exact ⟨0, by omega, rfl, hid rfl⟩
 case round =>
  obtain ⟨k, hk, rfl, HF⟩ := hrel
  by_cases hlt : k < n
  ·have hck := hc k hlt
   obtain ⟨d, hd⟩ : ∃ d, bs.getD k 0 = d := ⟨_, rfl⟩
   rw [hd] at hck
   have HT := hid (show Bm (bs.take (k + 1)) c = (Bm (bs.take k) c || c == d) by
    rw [JJ (by rw [HN.out]; exact hlt), <- hd, List.getD, List.getElem?_eq_getElem (by rw [HN.out]; exact hlt)]; rfl)
   have HA := hid (show c = d -> Bm bs c = true from fun e => OD.2 (by rw [e, <- hd, List.getD, List.getElem?_eq_getElem (by rw [HN.out]; exact hlt)]; exact List.getElem_mem _))
   clear hc hd
   by_cases hcd : c = d
   ·have HA' := hid (HA.out hcd)
    subst hcd
    clear HA HT
    go_wp2
    go_ret
    exact ⟨k, rfl, by rw [HA'.out]; simp, rfl⟩
   ·have hne : ((c.toNat : Int) == (d.toNat : Int)) = false := by
     rw [<- Bool.not_eq_true, beq_iff_eq]
     intro h; exact hcd (UInt8.toNat_inj.1 (by omega))
    have HF' := hid (show Bm (bs.take (k + 1)) c = false by rw [HT.out, HF.out, Bool.false_or, beq_eq_false_iff_ne]; exact hcd)
    clear hcd HA HT
    go_wp2
    go_round
    case rel => exact ⟨k + 1, by omega, by go_num, HF'⟩
    case measure => simp [intOf]; omega
  ·go_wp2
   go_ret
   have h := HF.out
   rw [List.take_of_length_le (by rw [HN.out]; omega)] at h
   exact ⟨-1, rfl, by rw [h]; rfl, rfl⟩
theorem Ml (bs : List UInt8) (c : UInt8) (b cap : Nat) (w : World) (hs : bs.length <= 1000) (hc : ∀ i, i < bs.length -> w.cell? ⟨b, i, none⟩ = some (.int .u8 (((bs.getD i 0).toNat : Nat) : Int))) :
  Calls Tryz.prog 131 #[.slice (some ⟨b, 0, none⟩) bs.length cap, .int .u8 ((c.toNat : Nat) : Int)] w fun e w' => e = .returned (.bool (Bm bs c)) /\ w' = w := by
 have hI := Sp bs c b cap w hs hc
 clear hc
 go_enter Tryz.func131, Tryz.ntmps131
 go_wp2_with fail
 refine hI.mono ?_
 rintro e w1 ⟨k, rfl, hk, hw⟩
 subst w1
 have HK := hid hk
 clear hk
 go_wp2
 go_ret
 exact ⟨by rw [<- HK.out]; rfl, rfl⟩
def RA (w : World) (R : Nat) (s : ByteArray) (p d : Nat) : Prop := w.heap[R]? = some (.cells #[.string s, .int .i64 p, .int .i64 d] 140)
theorem RA.below {w w' : World} {R : Nat} {s : ByteArray} {p d : Nat} (h : RA w R s p d) (hb : Below w.heap.size w w') : RA w' R s p d := Aa h hb
theorem RA.cells {w : World} {R : Nat} {s : ByteArray} {p d : Nat} (h : RA w R s p d) : w.cell? ⟨R, 0, none⟩ = some (.string s) /\ w.cell? ⟨R, 1, none⟩ = some (.int .i64 p) /\ w.cell? ⟨R, 2, none⟩ = some (.int .i64 d) /\ w.frozen? ⟨R, 0, none⟩ = false /\ w.frozen? ⟨R, 1, none⟩ = false /\ w.frozen? ⟨R, 2, none⟩ = false := Az h
theorem RA.alloc {w : World} {R : Nat} {s : ByteArray} {p d : Nat} (h : RA w R s p d) (o : Obj) : RA (w.alloc o) R s p d := h.below ((Bq _ w).alloc Nr o)
theorem RA.lt {w : World} {R : Nat} {s : ByteArray} {p d : Nat} (h : RA w R s p d) : R < w.heap.size := (Gl h)
theorem UE {s : ByteArray} {i : Nat} (hlt : i < s.size) (bs : List UInt8) : C3 s.data.toList i bs = Bm bs (s[i]'hlt) := by
 unfold C3
 rw [Cw s i hlt, <- Lib.size_eq]
 simp [hlt]
theorem UL {s : ByteArray} {i : Nat} (hlt : ¬ i < s.size) (bs : List UInt8) : C3 s.data.toList i bs = false := by
 unfold C3
 rw [<- Lib.size_eq]
 simp [hlt]
theorem Lk (w : World) (bs : List UInt8) (fz : Nat × Nat) (i : Nat) (hi : i < bs.length) : (w.alloc (.cells (bs.map fun c => Value.int .u8 ((c.toNat : Nat) : Int)).toArray 5 fz)).cell? ⟨w.heap.size, i, none⟩ = some (.int .u8 (((bs.getD i 0).toNat : Nat) : Int)) := by
 have h := Wn w (.cells (bs.map fun c => Value.int .u8 ((c.toNat : Nat) : Int)).toArray 5 fz)
 unfold World.cell?
 rw [h]
 simp [List.getD, hi]
theorem UX (R : Nat) (s : ByteArray) (p d : Nat) (z : Int) (i : Nat) (bs : List UInt8) (b cap : Nat) (w : World) (hs : s.size <= 1000000) (hz : (p : Int) + z = (i : Int)) (hi : i <= 2000000) (hbs : bs.length <= 1000) (hR : RA w R s p d)
  (hc : ∀ i, i < bs.length -> w.cell? ⟨b, i, none⟩ = some (.int .u8 (((bs.getD i 0).toNat : Nat) : Int))) :
  Calls Tryz.prog 103 #[.pointer (some ⟨R, 0, none⟩), .int .i64 z, .slice (some ⟨b, 0, none⟩) bs.length cap] w fun e w' => e = .returned (.bool (C3 s.data.toList i bs)) /\ w' = w := by
 obtain ⟨r0, r1, _, _⟩ := hR.cells
 obtain ⟨L, hL⟩ : ∃ L, bs.length = L := ⟨_, rfl⟩
 by_cases hlt : i < s.size
 ·obtain ⟨c, hcc⟩ : ∃ c, s[i]'hlt = c := ⟨_, rfl⟩
  have hC := Ml bs c b cap w hbs hc
  have hV : C3 s.data.toList i bs = Bm bs c := by rw [UE hlt, hcc]
  rw [hV]
  rw [hL] at hC |-
  have hlti : (i : Int) < (s.size : Int) := by omega
  clear hc hV hR hL
  go_enter Tryz.func103, Tryz.ntmps103
  go_wp2_with fail
  refine hC.mono ?_
  rintro e w1 ⟨rfl, hw⟩
  subst w1
  go_wp2
  go_ret
  exact ⟨rfl, rfl⟩
 ·rw [UL hlt]
  have hge : ¬ (i : Int) < (s.size : Int) := by omega
  clear hc hR hL
  go_enter Tryz.func103, Tryz.ntmps103
  go_wp2
  go_ret
  exact ⟨rfl, rfl⟩
theorem D5 (R : Nat) (s : ByteArray) (p d : Nat) (z : Int) (i : Nat) (bs : List UInt8) (n cap : Nat) (fz : Nat × Nat) (w : World) (hs : s.size <= 1000000) (hz : (p : Int) + z = (i : Int)) (hi : i <= 2000000) (hn : bs.length = n) (hbs : n <= 1000) (hR : RA w R s p d) :
  Calls Tryz.prog 103 #[.pointer (some ⟨R, 0, none⟩), .int .i64 z, .slice (some ⟨w.heap.size, 0, none⟩) n cap] (w.alloc (.cells (bs.map fun c => Value.int .u8 ((c.toNat : Nat) : Int)).toArray 5 fz)) fun e w' => e = .returned (.bool (C3 s.data.toList i bs)) /\ Below w.heap.size w w' := by
 subst hn
 refine (UX R s p d z i bs w.heap.size cap _ hs hz hi hbs (hR.alloc _) (Lk w bs fz)).mono ?_
 rintro e w' ⟨rfl, hw⟩
 subst w'
 exact ⟨rfl, (Bq _ w).alloc Nr _⟩
theorem DJ (R : Nat) (s : ByteArray) (p d : Nat) (z : Int) (i : Nat) (bs : List UInt8) (n cap : Nat) (w : World) (hs : s.size <= 1000000) (hz : (p : Int) + z = (i : Int)) (hi : i <= 2000000) (hn : bs.length = n) (hbs : n <= 1000) (hR : RA w R s p d) :
  Calls Tryz.prog 103 #[.pointer (some ⟨R, 0, none⟩), .int .i64 z, .slice (some ⟨w.heap.size, 0, none⟩) n cap] (w.alloc (.cells (bs.map fun c => Value.int .u8 ((c.toNat : Nat) : Int)).toArray 5)) fun e w' => e = .returned (.bool (C3 s.data.toList i bs)) /\ Below w.heap.size w w' :=
 D5 R s p d z i bs n cap (0, 0) w hs hz hi hn hbs hR
def Al (w : World) (R : Nat) (s : ByteArray) (p d : Nat) (w' : World) : Prop := Below w.heap.size w w' /\ RA w' R s p d
theorem Al.refl {w : World} {R : Nat} {s : ByteArray} {p d : Nat} (h : RA w R s p d) : Al w R s p d w.drew := ⟨(Bq _ w).drew, h⟩
theorem Al.step {w : World} {R : Nat} {s : ByteArray} {p d : Nat} {w1 w2 : World} (h : Al w R s p d w1) (hb : Below w1.heap.size w1 w2) : Al w R s p d w2 :=
 ⟨h.1.trans (hb.mono h.1.size), h.2.below hb⟩
theorem Al.alloc {w : World} {R : Nat} {s : ByteArray} {p d : Nat} {w1 : World} (h : Al w R s p d w1) (o : Obj) : Al w R s p d (w1.alloc o) := h.step ((Bq _ w1).alloc Nr o)
theorem Al.all {w : World} {R : Nat} {s : ByteArray} {p d : Nat} {w' : World} (h : Al w R s p d w') : w'.cell? ⟨R, 0, none⟩ = some (.string s) /\ w'.cell? ⟨R, 1, none⟩ = some (.int .i64 p) /\ w'.cell? ⟨R, 2, none⟩ = some (.int .i64 d) := ⟨h.2.cells.1, h.2.cells.2.1, h.2.cells.2.2.1⟩
theorem Ib (R : Nat) (s : ByteArray) (p d : Nat) (z i : Nat) (w : World) (hs : s.size <= 1000000) (hz : p + z = i) (hi : i <= 2000000) (hR : RA w R s p d) :
  Calls Tryz.prog 177 #[.pointer (some ⟨R, 0, none⟩), .int .i64 z] w fun e w' => e = .returned (.bool (C2 s.data.toList i)) /\ Below w.heap.size w w' := by
 obtain ⟨r0, r1, r2, _⟩ := hR.cells
 have hz' : (p : Int) + (z : Int) = (i : Int) := by omega
 by_cases hlt : i < s.size
 ·have hV : C2 s.data.toList i = C3 s.data.toList i [32] := by unfold C2; rw [<- Lib.size_eq, decide_eq_false (by omega)]; rfl
  rw [hV]
  have hd : decide ((s.size : Int) <= (i : Int)) = false := by simp; omega
  have hd2 : decide (s.size <= i) = false := by simp; omega
  have hw : IntKind.i64.wrap (i : Int) = (i : Int) := IntWalk.i64_in _ (by omega)
  have hH := Al.refl hR
  go_enter Tryz.func177, Tryz.ntmps177
  go_wp2
  go_region_held3 (fun w' => w'.cell? ⟨R, 0, none⟩ = some (.string s) /\ w'.cell? ⟨R, 1, none⟩ = some (.int .i64 p) /\ w'.cell? ⟨R, 2, none⟩ = some (.int .i64 d)) (first | exact Al.all (by assumption) | exact Al.all (Al.alloc (by assumption) _)) (first | (go_at_call 103; refine (DJ R s p d z i [32] 1 _ _ hs hz' hi rfl (by omega) (And.right (a := Below w.heap.size w _) (by assumption))).mono ?_; rintro e wz ⟨rfl, hb⟩; have hz : Al w R s p d wz := Al.step (by assumption) hb))
  go_wp2
  go_ret
  exact ⟨rfl, hz.1⟩
 ·have hV : C2 s.data.toList i = true := by unfold C2; rw [<- Lib.size_eq, decide_eq_true (by omega)]; rfl
  rw [hV]
  have hd : decide ((s.size : Int) <= (i : Int)) = true := by simp; omega
  have hd2 : decide (s.size <= i) = true := by simp; omega
  have hw : IntKind.i64.wrap (i : Int) = (i : Int) := IntWalk.i64_in _ (by omega)
  have hH := Al.refl hR
  go_enter Tryz.func177, Tryz.ntmps177
  go_wp2
  go_quiet (fail)
  go_wp2
  go_ret
  exact ⟨rfl, Ae (Bq _ _)⟩
theorem CG (R : Nat) (s : ByteArray) (p d : Nat) (w : World) (hs : s.size <= 1000000) (hp : p <= 1000000) (hR : RA w R s p d) :
  Calls Tryz.prog 104 #[.pointer (some ⟨R, 0, none⟩)] w fun e w' => e = .returned (.bool (BV s.data.toList p)) /\ Below w.heap.size w w' := by
 have hI1 := fun wx hx => DJ R s p d 0 p [35] 1 1 wx hs (by omega) (by omega) rfl (by omega) hx
 cases h1 : C3 s.data.toList p [35] with
 | false =>
  rw [h1] at hI1
  have HV := hid (show BV s.data.toList p = false by unfold BV; rw [h1]; rfl)
  clear h1
  go_enter Tryz.func104, Tryz.ntmps104
  go_wp2_with fail
  refine (hI1 _ hR).mono ?_
  rintro e w1 ⟨rfl, hb1⟩
  clear hI1
  go_wp2
  go_ret
  exact ⟨by rw [HV.out]; rfl, hb1⟩
 | true =>
  rw [h1] at hI1
  by_cases h0 : p = 0
  ·have HV := hid (show BV s.data.toList p = true by unfold BV; rw [h1, h0]; rfl)
   subst h0
   clear h1
   go_enter Tryz.func104, Tryz.ntmps104
   go_wp2_with fail
   refine (hI1 _ hR).mono ?_
   rintro e w1 ⟨rfl, hb1⟩
   clear hI1
   obtain ⟨r0, r1, r2, _⟩ := (hR.below hb1).cells
   go_wp2
   go_ret
   exact ⟨by rw [HV.out]; rfl, hb1⟩
  ·obtain ⟨k, rfl⟩ : ∃ k, p = k + 1 := ⟨p - 1, by omega⟩
   have hI2 := fun wx hx => DJ R s (k + 1) d (-1) k [32] 1 1 wx hs (by omega) (by omega) rfl (by omega) hx
   have HV := hid (show BV s.data.toList (k + 1) = C3 s.data.toList k [32] by unfold BV; rw [h1, show k + 1 - 1 = k from rfl]; simp)
   have hne : (((k + 1 : Nat) : Int) == 0) = false := by rw [beq_eq_false_iff_ne]; omega
   clear h0 h1
   obtain ⟨q, hq⟩ : ∃ q, k + 1 = q := ⟨_, rfl⟩
   rw [hq] at hI1 hI2 HV hR hne hp |-
   clear hq
   go_enter Tryz.func104, Tryz.ntmps104
   go_wp2_with fail
   refine (hI1 _ hR).mono ?_
   rintro e w1 ⟨rfl, hb1⟩
   clear hI1
   have hR1 := hR.below hb1
   obtain ⟨r0, r1, r2, _⟩ := hR1.cells
   go_wp2_with fail
   refine (hI2 _ hR1).mono ?_
   rintro e w2 ⟨rfl, hb2⟩
   clear hI2
   go_wp2
   go_ret
   exact ⟨by rw [HV.out]; rfl, hb1.trans (hb2.mono hb1.size)⟩
theorem Bv (R : Nat) (s : ByteArray) (p d : Nat) (z i : Nat) (w : World) (hs : s.size <= 1000000) (hz : p + z = i) (hi : i <= 2000000) (hR : RA w R s p d) :
  Calls Tryz.prog 173 #[.pointer (some ⟨R, 0, none⟩), .int .i64 z] w fun e w' => e = .returned (.bool (AF s.data.toList i d)) /\ Below w.heap.size w w' := by
 have hB := fun wx hx => Ib R s p d z i wx hs hz hi hx
 have hI := fun wx hx => D5 R s p d z i CN 5 5 (5, 6) wx hs (by omega) hi rfl (by omega) hx
 have hcv := fun (w : World) (C : Array Value) (n c : Nat) => Lib.run_convert_bytes_const (P := Tryz.prog) w 90 5 C n c Tryz.underlying90 Tryz.underlying5
 cases hb : C2 s.data.toList i with
 | true =>
  rw [hb] at hB
  have HV := hid (show AF s.data.toList i d = true by unfold AF; rw [hb]; rfl)
  clear hb hz
  go_enter Tryz.func173, Tryz.ntmps173
  go_wp2_with fail
  refine (hB _ hR).mono ?_
  rintro e w1 ⟨rfl, hb1⟩
  clear hB hI
  go_wp2
  go_ret
  exact ⟨by rw [HV.out]; rfl, hb1⟩
 | false =>
  rw [hb] at hB
  have HV := hid (show AF s.data.toList i d = (decide (0 < d) && C3 s.data.toList i CN) by unfold AF; rw [hb]; rfl)
  clear hb hz
  by_cases hd : 0 < d
  ·have hdi : (0 : Int) < (d : Int) := by omega
   rw [show decide (0 < d) = true by simpa using hd] at HV
   go_enter Tryz.func173, Tryz.ntmps173
   go_wp2_with fail
   refine (hB _ hR).mono ?_
   rintro e w1 ⟨rfl, hb1⟩
   clear hB
   have hR1 := hR.below hb1
   obtain ⟨r0, r1, r2, _⟩ := hR1.cells
   go_wp2_with fail
   refine (hI _ hR1).mono ?_
   rintro e w2 ⟨rfl, hb2⟩
   clear hI
   go_wp2
   go_ret
   exact ⟨by rw [HV.out]; rfl, hb1.trans (hb2.mono hb1.size)⟩
  ·have hdi : ¬ (0 : Int) < (d : Int) := by omega
   rw [show decide (0 < d) = false by simpa using hd] at HV
   go_enter Tryz.func173, Tryz.ntmps173
   go_wp2_with fail
   refine (hB _ hR).mono ?_
   rintro e w1 ⟨rfl, hb1⟩
   clear hB hI
   obtain ⟨r0, r1, r2, _⟩ := (hR.below hb1).cells
   go_wp2
   go_ret
   exact ⟨by rw [HV.out]; rfl, hb1⟩
end
section
theorem QG (c d : UInt8) : Bm [d] c = ((c.toNat : Int) == (d.toNat : Int)) := by
 rw [Ld]; unfold Bm; rw [Bool.eq_iff_iff]; simp
theorem Ud {s : ByteArray} {i : Nat} (hlt : i < s.size) {c : UInt8} (hc : s[i]'hlt = c) (d : UInt8) : C3 s.data.toList i [d] = ((c.toNat : Int) == (d.toNat : Int)) := by
 unfold C3
 rw [Cw s i hlt, <- Lib.size_eq, hc, QG]
 simp [hlt]
theorem Qj {p : UInt8 -> Bool} {l : List UInt8} {k : Nat} (h : k < l.length) : (l.take (k + 1)).all p = ((l.take k).all p && p (l.getD k 0)) := by
 rw [List.take_succ_eq_append_getElem h, List.all_append]
 simp [List.getD, List.getElem?_eq_getElem h]
theorem OB {p : UInt8 -> Bool} {l : List UInt8} {k : Nat} (h : k < l.length) (hz : p (l.getD k 0) = false) : l.all p = false := by
 rw [List.all_eq_false]
 refine ⟨l[k], List.getElem_mem h, ?_⟩
 simpa [List.getD, List.getElem?_eq_getElem h] using hz
def BY (t : Tk) : List Value := [.int .i64 t.kind, .string ⟨t.str.toArray⟩, .int .i64 t.at_]
def BP (t : Tk) : Value := .agg #[.int .i64 t.kind, .string ⟨t.str.toArray⟩, .int .i64 t.at_]
def DX (w : World) (v : Value) (ts : List Tk) : Prop :=
 ∃ (A : Option Addr) (cap : Nat), v = .slice A ts.length cap /\ ∀ k, k < ts.length -> ∃ (b o : Nat), A = some ⟨b, o, none⟩ /\ b < w.heap.size ∧
  w.cell? ⟨b, o + k * 3, none⟩ = some (.int .i64 (ts.getD k ⟨0, [], 0⟩).kind) /\ w.cell? ⟨b, o + k * 3 + 1, none⟩ = some (.string ⟨(ts.getD k ⟨0, [], 0⟩).str.toArray⟩) /\ w.cell? ⟨b, o + k * 3 + 2, none⟩ = some (.int .i64 (ts.getD k ⟨0, [], 0⟩).at_)
theorem DX.nil (w : World) : DX w (.slice none 0 0) [] := ⟨none, 0, rfl, fun k h => by simp at h⟩
theorem DX.below {w w' : World} {v : Value} {ts : List Tk} (h : DX w v ts) (hb : Below w.heap.size w w') : DX w' v ts := by
 obtain ⟨A, cap, hv, hc⟩ := h
 refine ⟨A, cap, hv, fun k hk => ?_⟩
 obtain ⟨b, o, ha, hlt, h0, h1, h2⟩ := hc k hk
 exact ⟨b, o, ha, Nat.lt_of_lt_of_le hlt hb.size, (hb.cell (p := ⟨b, o + k * 3, none⟩) hlt).trans h0, (hb.cell (p := ⟨b, o + k * 3 + 1, none⟩) hlt).trans h1, (hb.cell (p := ⟨b, o + k * 3 + 2, none⟩) hlt).trans h2⟩
theorem T5 (k1 p1 k2 p2 : Int) (s1 s2 : ByteArray) (w : World) :
  (binOp .neq 116 (.agg #[.int .i64 k1, .string s1, .int .i64 p1]) (.agg #[.int .i64 k2, .string s2, .int .i64 p2])).run Tryz.prog w = .ok (.bool (!(k1 == k2 && (s1.toList == s2.toList && p1 == p2)))) w := by
 rw [run_neq_struct]
 cases h1 : (k1 == k2) <;> cases h2 : (s1.toList == s2.toList) <;> cases h3 : (p1 == p2) <;> go_simp
end
end Go.Proofs.YtaogfdffgdglkaaGreatDoor
