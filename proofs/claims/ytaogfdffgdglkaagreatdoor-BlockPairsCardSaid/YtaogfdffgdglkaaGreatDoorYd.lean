/- What is proved: a part of the walk of the program and of its plain laws; no condition beside those that each theorem names. -/
import Derived.Test.YtaogfdffgdglkaaGreatDoorYa
import Derived.Test.YtaogfdffgdglkaaGreatDoorYc
import Derived.Test.YtaogfdffgdglkaaGreatDoorYMaps
import Derived.Shelf.Strings.BuilderK
import Derived.Lib.RuneBytes
import Derived.Laws.Externs
import Derived.WalkSpells
import Derived.Lib.ConvBytes
import Derived.Lib.AtoiAllMem
import Derived.Laws.Closers25b
import Derived.BigCall
import Derived.BigGuard
import Derived.Laws.IdiomRangeMap
namespace Go.Proofs.YtaogfdffgdglkaaGreatDoor
open Go Go.RowKit Go.Lib
set_option linter.unusedSimpArgs false
set_option linter.unusedVariables false
section
set_option maxHeartbeats 32000000
set_option maxRecDepth 100000
open Go Go.RowKit
abbrev TB : TypeId := 92
abbrev T8 : TypeId := 5
theorem G6 : (Tryz.prog.info? TB).map (·.size) = some 2 := by kernel_rfl
theorem LJ : liesAt Tryz.prog Tryz.prog.depth TB (2 / Tryz.prog.cellsOf TB) 0 TB 1 = true := by kernel_rfl
theorem E0 : Tryz.prog.underlying 89 = some (.pointer TB) := by kernel_rfl
theorem IZ : Tryz.prog.underlying 155 = some .unsafePointer := by kernel_rfl
theorem I6 (b : Nat) (w : World) (h0 : w.cell? ⟨b, 0, none⟩ = some (.pointer (some ⟨b, 0, none⟩))) :
  Calls Tryz.prog 62 #[.pointer (some ⟨b, 0, none⟩)] w fun e w' => e = .returned (.tuple #[]) /\ w' = w := by
 obtain ⟨j, hj, _⟩ := Option.map_eq_some_iff.1 G6
 go_enter Tryz.func62, Tryz.ntmps62
 go_wp2
 rw [Lib.run_neq_ptr_same w _ E0 hj]
 go_wp2
 go_end0
 exact ⟨rfl, rfl⟩
theorem Iq (b : Nat) (w : World) (h0 : w.cell? ⟨b, 0, none⟩ = some (.pointer none)) (hsh : w.shape? b = some (TB, 2)) (hfz : w.frozen? ⟨b, 0, none⟩ = false) :
  Calls Tryz.prog 62 #[.pointer (some ⟨b, 0, none⟩)] w fun e w' => e = .returned (.tuple #[]) /\ w' = w.setCell ⟨b, 0, none⟩ (.pointer (some ⟨b, 0, none⟩)) := by
 obtain ⟨j, hj, hjs⟩ := Option.map_eq_some_iff.1 G6
 go_enter Tryz.func62, Tryz.ntmps62
 go_wp2
 rw [Lib.run_to_unsafe w ⟨b, 0, none⟩ E0 IZ hj (by rw [hjs]; decide) hsh (Nat.zero_lt_succ 1)]
 simp only [Result.andThen]
 rw [Oper.upon_value]
 go_wp2
 rw [run_callFunc_extern Tryz.func99 (by kernel_rfl) (by kernel_rfl) (by kernel_rfl) (e := Extern.AbiNoEscape.same) (by kernel_rfl)]
 rw [Lib.run_noEscape]
 simp only [Result.andThen]
 rw [Oper.upon_value]
 go_wp2
 rw [Lib.run_from_unsafe w ⟨b, 0, none⟩ IZ E0 hj hsh LJ]
 simp only [Result.andThen]
 rw [Oper.upon_value]
 go_wp2
 go_end0
 exact ⟨rfl, rfl⟩
theorem Ni (B b : Nat) (bs : List Value) (w : World) (h : Lib.IsBuilderF TB T8 B b bs w) :
  Calls Tryz.prog 62 #[.pointer (some ⟨b, 0, none⟩)] w fun e w' => e = .returned (.tuple #[]) /\ (Lib.BuilderAtF TB T8 B b (.pointer (some ⟨b, 0, none⟩)) bs w' /\ Below B w w' /\ Lib.OthersKept T8 (some b) w w') := by
 rcases h with h | h
 ·refine (Iq b w h.cell0 h.shape h.frozen0).mono ?_
  rintro e w' ⟨rfl, rfl⟩
  exact ⟨rfl, h.used _, (Bq B w).setCell (p := ⟨b, 0, none⟩) h.1 _, (Lib.OthersKept.refl _ _ w).setCell ⟨b, 0, none⟩ rfl _⟩
 ·refine (I6 b w h.cell0).mono ?_
  rintro e w' ⟨rfl, rfl⟩
  exact ⟨rfl, h, Bq B _, Lib.OthersKept.refl _ _ _⟩
theorem M6 (B b : Nat) (bs : List Value) (r : Int) (hr0 : -2147483648 <= r) (hr1 : r <= 2147483647) (w : World) (h : Lib.IsBuilderF TB T8 B b bs w) (hlen : bs.length + 4 <= 140737488355328) (hBw : B <= w.heap.size) :
  Calls Tryz.prog 34 #[.pointer (some ⟨b, 0, none⟩), .int .i32 r] w fun e w' => e = .returned (.tuple #[.int .i64 (Lib.runeCells r).length, .nilIface]) /\ (Lib.BuilderAtF TB T8 B b (.pointer (some ⟨b, 0, none⟩)) (bs ++ Lib.runeCells r) w' /\ Below B w w' /\ Lib.OthersKept T8 (some b) w w') := by
 have hk4 := Lib.runeCells_le r
 go_enter Tryz.func34, Tryz.ntmps34
 go_wp2_with fail
 refine (Ni B b bs _ h).mono ?_
 rintro e w1 ⟨rfl, h1, hb1, hk1⟩
 obtain ⟨hB, v, hbk, hown, hne⟩ := h1
 obtain ⟨ao, cap, rfl⟩ : ∃ ao cap, v = .slice ao bs.length cap := by
  rcases hown.2 with ⟨hv, h0⟩ | ⟨g, cap, cur, fz, hv, _⟩
  ·exact ⟨none, 0, by rw [hv, h0]⟩
  ·exact ⟨_, _, hv⟩
 have c0 : w1.cell? ⟨b, 0, none⟩ = some (.pointer (some ⟨b, 0, none⟩)) := by rw [Lib.cell_of_heap hbk]; rfl
 have c1 : w1.cell? ⟨b, 1, none⟩ = some (.slice ao bs.length cap) := by rw [Lib.cell_of_heap hbk]; rfl
 go_wp2_with fail
 refine (Tryz.utf8_AppendRune_row B _ bs.length bs r hr0 hr1 _ hown hlen (by have := hb1.size; omega)).mono ?_
 rintro e w2 ⟨v', rfl, hown', o, hgrow⟩
 have hlt : b < w1.heap.size := by
  rcases Nat.lt_or_ge b w1.heap.size with h' | h'
  ·exact h'
  ·simp [Array.getElem?_eq_none h'] at hbk
 have hb2 : w2.heap[b]? = some (.cells #[.pointer (some ⟨b, 0, none⟩), .slice ao bs.length cap] TB (0, 0)) := by
  rw [hgrow.block b (by simp; omega) (fun e => hne e.symm), Lib.alloc_old w1 _ b hlt]
  exact hbk
 have d0 : w2.cell? ⟨b, 0, none⟩ = some (.pointer (some ⟨b, 0, none⟩)) := by rw [Lib.cell_of_heap hb2]; rfl
 have d1 : w2.cell? ⟨b, 1, none⟩ = some (.slice ao bs.length cap) := by rw [Lib.cell_of_heap hb2]; rfl
 have f1 : w2.frozen? ⟨b, 1, none⟩ = false := Lib.frozen_of_heap hb2 1
 obtain ⟨g, cap', rfl⟩ : ∃ g cap', v' = .slice (some ⟨g, 0, none⟩) (bs.length + (Lib.runeCells r).length) cap' := by
  rcases hown'.2 with ⟨_, h0⟩ | ⟨g, cap', cur, fz, hv, _⟩
  ·omega
  ·exact ⟨g, cap', hv⟩
 go_wp2
 go_ret2
 refine ⟨?_, ?_, ?_, ((hk1.alloc _).grown hgrow (Lib.ownsRowF_kind (hown.alloc _))).setCell ⟨b, 1, none⟩ rfl _⟩
 ·have e : ((bs.length : Int) + ((Lib.runeCells r).length : Int) - (bs.length : Int)) = ((Lib.runeCells r).length : Int) := by omega
  simp [e]
 ·exact Lib.BuilderAtF.put (T := TB) (e := T8) hB hb2 (bs' := bs ++ Lib.runeCells r) (by simpa using hown') (by decide)
 ·exact ((hb1.alloc (by have := hb1.size; omega) _).grown hgrow (by have := hb1.size; simp; omega) (fun k hk => (hown.lt k hk).1)).setCell (p := ⟨b, 1, none⟩) hB _
theorem R0 (r : Int) (zs : List Int) (b n cap : Nat) (w : World) (hn : zs.length = n) (hs : n <= 1000) (hc : ∀ i, i < n -> w.cell? ⟨b, i, none⟩ = some (.int .i32 (zs[i]?.getD 0))) :
  Calls Tryz.prog 36 #[.int .i32 r, .slice (some ⟨b, 0, none⟩) n cap] w fun e w' => e = .returned (.bool (BT zs r)) /\ w = w' := by
 subst hn
 go_enter Tryz.func36, Tryz.ntmps36
 go_wp2
 go_loop [9] (fun i => ∃ k : Nat, k <= zs.length /\ i = .int .i64 k /\ Hid (BT (zs.take k) r = false)) (fun i => zs.length - (intOf i).toNat)
 case atStart => exact ⟨0, by omega, rfl, hid rfl⟩
 case round =>
  obtain ⟨k, hk, rfl, HN⟩ := hrel
  by_cases hlt : k < zs.length
  ·have hck := hc k hlt
   clear hc
   go_wp2
   ·have hx : (r == zs[k]) = true := by assumption
    go_ret
    exact ⟨by rw [MB hlt hx]; rfl, rfl⟩
   ·have hx : (r == zs[k]) = false := by assumption
    go_round
    case rel => exact ⟨k + 1, by omega, by go_num, hid (by rw [JV hlt, HN.out, hx]; rfl)⟩
    case measure => simp [intOf]; omega
  ·go_wp2
   go_ret
   have h := HN.out
   rw [List.take_of_length_le (by omega)] at h
   exact ⟨by rw [h]; rfl, rfl⟩
theorem DC (r : Int) (zs : List Int) (n cap : Nat) (w : World) (hn : zs.length = n) (hs : n <= 1000) :
  Calls Tryz.prog 36 #[.int .i32 r, .slice (some ⟨w.heap.size, 0, none⟩) n cap] (w.alloc (.cells (zs.map (Value.int .i32)).toArray 21)) fun e w' => e = .returned (.bool (BT zs r)) /\ Below w.heap.size w w' := by
 refine (R0 r zs w.heap.size n cap _ hn hs (fun i hi => ?_)).mono ?_
 ·have h := Wn w (.cells (zs.map (Value.int .i32)).toArray 21)
  unfold World.cell?
  rw [h]
  simp [show i < zs.length by omega]
 ·rintro e w' ⟨rfl, rfl⟩
  exact ⟨rfl, (Bq _ w).alloc Nr _⟩
theorem FU (n : Int) (w : World) :
  Calls Tryz.prog 37 #[.int .i32 n] w fun e w' => e = .returned (.bool (Ch n)) /\ w' = w := by
 go_enter Tryz.func37, Tryz.ntmps37
 go_wp2
 all_goals (go_ret; refine ⟨?_, rfl⟩)
 all_goals (refine congrArg (fun b => Ending.returned (Value.bool b)) (?_ : _ = Ch n); unfold Ch; rw [Bool.eq_iff_iff]; simp; omega)
def NX (r : Int) : Value := .int .i32 r
def Ho : List (Int × Value) := [(10, .int .i32 110), (9, .int .i32 116), (13, .int .i32 114)]
def C5 (k : Nat) : Obj := CQ NX (Ho.take k)
theorem V2 (a b : Int) : Instr.sameNow (.int .i32) (NX a) (NX b) = some (a == b) := rfl
theorem U0 (a : Int) : MapKept.IsKey (.int .i32) (NX a) := by unfold NX; simp [MapKept.IsKey]
theorem EM (w : World) (k : Nat) (a : Int) (v : Value) (h : BH a (Ho.take k) = none) (hk : Ho.take (k + 1) = Ho.take k ++ [(a, v)]) :
  (Instr.mapUpdate 98 (.map (some w.heap.size)) (.int .i32 a) v).run Tryz.prog (w.alloc (C5 k)) = .ok () (w.alloc (C5 (k + 1))) := by
 unfold C5
 rw [hk]
 have := D6 (P := Tryz.prog) (enc := NX) V2 U0 (t := 98) (k := 21) (e := 21) (w := w.alloc (CQ NX (Ho.take k))) (l := Ho.take k) Tryz.underlying98 Tryz.underlying21 (Wn w _) a v h
 rw [E1] at this
 exact this
theorem QC (w : World) :
  Calls Tryz.prog 35 #[] w fun e w' => e = .returned (.map (some w.heap.size)) /\ w' = w.alloc (C5 3) := by
 have hmm := @run_makeMap Tryz.prog
 have h0 : (Instr.mapUpdate 98 (.map (some w.heap.size)) (.int .i32 10) (.int .i32 110)).run Tryz.prog (w.alloc (.map #[] 0)) = .ok () (w.alloc (C5 1)) := EM w 0 10 _ rfl rfl
 have h1 : (Instr.mapUpdate 98 (.map (some w.heap.size)) (.int .i32 9) (.int .i32 116)).run Tryz.prog (w.alloc (C5 1)) = .ok () (w.alloc (C5 2)) := EM w 1 9 _ (by decide +kernel) rfl
 have h2 : (Instr.mapUpdate 98 (.map (some w.heap.size)) (.int .i32 13) (.int .i32 114)).run Tryz.prog (w.alloc (C5 2)) = .ok () (w.alloc (C5 3)) := EM w 2 13 _ (by decide +kernel) rfl
 go_enter Tryz.func35, Tryz.ntmps35
 go_wp2
 go_ret
 exact ⟨rfl, rfl⟩
abbrev Ui (s : ByteArray) (q : Int) : Value := .agg #[.string s, .int .i32 q]
def AR (s : ByteArray) (i : Nat) : Int := (Lib.decodeGo (s.extract (min i s.size) s.size)).1
theorem Eo (s : ByteArray) (i : Nat) (h : i < s.size) : AR s i = (Utf8.decode s i).1 := by
 unfold AR
 rw [Nat.min_eq_left (by omega), FQ s i h]
theorem KC (s : ByteArray) (i : Nat) (h : s.size <= i) : AR s i = 65533 := by
 unfold AR
 rw [Nat.min_eq_right h]
 unfold Lib.decodeGo
 rw [if_pos (by simp [ByteArray.size_extract])]
 rfl
theorem EF (s : ByteArray) (q : Int) (i : Nat) (w : World) (hs : s.size <= 1000000) (hi : i <= 2000000) (hT : Bz w) :
  Calls Tryz.prog 217 #[Ui s q, .int .i64 i] w fun e w' => e = .returned (.int .i32 (AR s i)) /\ Below w.heap.size w w' := by
 have hT1 : Bz (w.alloc (.cells #[.string s, .int .i32 q] 286)) := hT.below ((Bq _ w).alloc Nr _)
 by_cases h : i < s.size
 ·have hlt : (i : Int) <= (s.size : Int) := by omega
  have HD := hid (show ((Lib.decodeGo (s.extract (min (i : Int) (s.size : Int)).toNat s.size)).1 : Int) = AR s i by unfold AR; rw [show (min (i : Int) (s.size : Int)).toNat = min i s.size by omega])
  go_enter Tryz.func217, Tryz.ntmps217
  go_wp2_with fail
  refine (DE _ _ hT1).mono ?_
  rintro e w1 ⟨rfl, hb1⟩
  rw [HD.out]
  go_wp2
  go_ret
  exact ⟨rfl, (((Bq _ w).alloc Nr _).trans (hb1.mono (by simp)))⟩
 ·have hge : (s.size : Int) <= (i : Int) := by omega
  have HD := hid (show ((Lib.decodeGo (s.extract (min (i : Int) (s.size : Int)).toNat s.size)).1 : Int) = AR s i by unfold AR; rw [show (min (i : Int) (s.size : Int)).toNat = min i s.size by omega])
  go_enter Tryz.func217, Tryz.ntmps217
  go_wp2_with fail
  refine (DE _ _ hT1).mono ?_
  rintro e w1 ⟨rfl, hb1⟩
  rw [HD.out]
  go_wp2
  go_ret
  exact ⟨rfl, (((Bq _ w).alloc Nr _).trans (hb1.mono (by simp)))⟩
def JC (c : UInt8) : Option Nat := if 48 <= c.toNat /\ c.toNat <= 57 then some (c.toNat - 48) else if 97 <= (c ||| 32).toNat /\ (c ||| 32).toNat <= 102 then some ((c ||| 32).toNat - 87) else none
def C9 : Nat -> List UInt8 -> Option Nat
 | acc, [] => some acc
 | acc, c :: t => match JC c with
  | none => none
  | some d => C9 (acc * 16 + d) t
theorem SU {c : UInt8} {d : Nat} (h : JC c = some d) : d < 16 := by
 unfold JC at h
 split at h
 ·injection h with h; omega
 ·split at h
  ·injection h with h; omega
  ·cases h
theorem Ps : ∀ (l : List UInt8) (acc v : Nat), C9 acc l = some v -> v < (acc + 1) * 16 ^ l.length
 | [], acc, v, h => by unfold C9 at h; injection h with h; simp; omega
 | c :: t, acc, v, h => by
  unfold C9 at h
  split at h
  ·cases h
  ·rename_i d hd
   have h1 := Ps t _ v h
   have h2 := SU hd
   have h3 : (acc * 16 + d + 1) * 16 ^ t.length <= ((acc + 1) * 16) * 16 ^ t.length := Nat.mul_le_mul_right _ (by omega)
   rw [List.length_cons, Nat.pow_succ]
   calc v < (acc * 16 + d + 1) * 16 ^ t.length := h1
    _ <= ((acc + 1) * 16) * 16 ^ t.length := h3
    _ = (acc + 1) * (16 ^ t.length * 16) := by rw [Nat.mul_assoc, Nat.mul_comm 16]
theorem Qx (c : UInt8) : bits .or .u8 (c.toNat : Int) 32 = ((c ||| 32).toNat : Int) := by
 have h : ∀ n : Fin 256, bits .or .u8 (n.val : Int) 32 = (((UInt8.ofNat n.val) ||| 32).toNat : Int) := by decide +kernel
 have := h ⟨c.toNat, c.toNat_lt⟩
 simpa using this
def Om : Option Nat -> Value
 | some n => .tuple #[.int .u64 n, .nilIface]
 | none => .tuple #[.int .u64 0, .iface 329 (.int .i64 2)]
theorem GK (t : ByteArray) (hne : t.size ≠ 0) (hmax : t.size <= 4) (w : World) :
  Calls Tryz.prog 229 #[.string t, .int .i64 16, .int .i64 32] w fun e w' => e = .returned (Om (C9 0 t.data.toList)) /\ w' = Lib.bytesWorld w 5 t := by
 have hemp : t.toList.isEmpty = false := by
  rw [<- decide_eq_emptyBytes]
  exact decide_eq_false (fun h => hne (by rw [h]; rfl))
 have hcv := Lib.run_convert_string_bytes (P := Tryz.prog) w 9 90 5 t (u := .string) Tryz.underlying9 Tryz.underlying90 Tryz.underlying5
 have hB : ∀ j, j < t.size -> (Lib.bytesWorld w 5 t).cell? ⟨w.heap.size, j, none⟩ = some (.int .u8 (t.data.toList.getD j 0).toNat) := fun j hj => Lib.bytesWorld_cell w 5 t j hj
 obtain ⟨W1, hW1⟩ : ∃ W1, W1 = Lib.bytesWorld w 5 t := ⟨_, rfl⟩
 rw [<- hW1] at hcv hB |-
 clear hW1
 obtain ⟨bs, hL⟩ : ∃ bs, bs = t.data.toList := ⟨_, rfl⟩
 have hLn : bs.length = t.size := by rw [hL, Lib.size_eq]
 rw [<- hL] at hB |-
 clear hL
 have hmv : IntKind.u64.wrap (IntKind.u64.wrap 4294967296 - 1) = 4294967295 := by
  rw [IntKind.wrap_u64, IntKind.wrap_u64]
  decide
 go_enter Tryz.func229, Tryz.ntmps229
 go_wp2
 go_loop [12, 13, 101] (fun vu vn vi => ∃ (k acc : Nat) (a : Int), vu = .bool false /\ vn = .int .u64 a /\ vi = .int .i64 k /\ k <= t.size /\ 0 <= a /\ a <= 4095 + 61440 * (k : Int) /\ Hid (a = (acc : Int) /\ acc + 1 <= 16 ^ k /\ C9 0 bs = C9 acc (bs.drop k)))
  (fun _ _ vi => t.size - (intOf vi).toNat)
 case atStart => exact ⟨0, 0, 0, rfl, rfl, rfl, by omega, by omega, by omega, rfl, by omega, rfl⟩
 case round =>
  obtain ⟨k, acc, a, rfl, rfl, rfl, hk, a0, _, hh⟩ := hrel
  obtain ⟨ha, hacc, hdec⟩ := hh.out
  clear hh
  by_cases hkn : k < t.size
  ·have a1 : a <= 4095 := by
    have : 16 ^ k <= 16 ^ 3 := Nat.pow_le_pow_right (by omega) (by omega)
    omega
   have hc := hB k hkn
   have hdrop : bs.drop k = bs[k]'(by omega) :: bs.drop (k + 1) := List.drop_eq_getElem_cons (by omega)
   have hget : bs.getD k 0 = bs[k]'(by omega) := by simp [List.getD, List.getElem?_eq_getElem (show k < bs.length by omega)]
   rw [hdrop] at hdec
   rw [hget] at hc
   generalize bs[k]'(by omega) = c at hc hdec
   have hc256 : c.toNat < 256 := c.toNat_lt
   clear hB hdrop hget
   by_cases hdig : 48 <= c.toNat /\ c.toNat <= 57
   ·obtain ⟨hd0, hd1⟩ := hdig
    have hF : C9 acc (c :: bs.drop (k + 1)) = C9 (acc * 16 + (c.toNat - 48)) (bs.drop (k + 1)) := by
     show (match JC c with | none => none | some d => C9 (acc * 16 + d) (bs.drop (k + 1))) = _
     unfold JC
     rw [if_pos ⟨hd0, hd1⟩]
    have HN : Hid (a * 16 + ((c.toNat : Int) - 48) = ((acc * 16 + (c.toNat - 48) : Nat) : Int) /\ (acc * 16 + (c.toNat - 48)) + 1 <= 16 ^ (k + 1) /\ C9 0 bs = C9 (acc * 16 + (c.toNat - 48)) (bs.drop (k + 1))) := Lib.hid ⟨by omega, by rw [Nat.pow_succ]; omega, hdec.trans hF⟩
    have hbd : a * 16 + ((c.toNat : Int) - 48) <= 4095 + 61440 * ((k + 1 : Nat) : Int) := by omega
    have hge : 0 <= a * 16 + ((c.toNat : Int) - 48) := by omega
    clear hacc hF hdec ha
    go_wp2
    refine ⟨⟨k + 1, acc * 16 + (c.toNat - 48), a * 16 + ((c.toNat : Int) - 48), rfl, (by first | rfl | (congr 1; omega)), (by first | rfl | (congr 1; omega)), by omega, hge, hbd, HN⟩, by simp [intOf]; omega⟩
   ·have hlo := Qx c
    obtain ⟨lc, hlc⟩ : ∃ lc : Nat, (c ||| 32).toNat = lc := ⟨_, rfl⟩
    rw [hlc] at hlo
    have hl256 : lc < 256 := by rw [<- hlc]; exact (c ||| 32).toNat_lt
    have hF : C9 acc (c :: bs.drop (k + 1)) = if 97 <= lc /\ lc <= 102 then C9 (acc * 16 + (lc - 87)) (bs.drop (k + 1)) else none := by
     show (match JC c with | none => none | some d => C9 (acc * 16 + d) (bs.drop (k + 1))) = _
     unfold JC
     rw [if_neg hdig, hlc]
     by_cases hx : 97 <= lc /\ lc <= 102
     ·rw [if_pos hx, if_pos hx]
     ·rw [if_neg hx, if_neg hx]
    have hlw := fun wx => Tryz.internal_strconv_lower (c.toNat : Int) wx
    rw [hlo] at hlw
    have h95 : c.toNat = 95 -> lc = 127 := fun h => by
     have : c = 95 := UInt8.toNat_inj.1 (by simpa using h)
     rw [<- hlc, this]; rfl
    clear hlo hlc
    by_cases hlet : 97 <= lc /\ lc <= 102
    ·rw [if_pos hlet] at hF
     obtain ⟨hd0, hd1⟩ := hlet
     have HN : Hid (a * 16 + ((lc : Int) - 87) = ((acc * 16 + (lc - 87) : Nat) : Int) /\ (acc * 16 + (lc - 87)) + 1 <= 16 ^ (k + 1) /\ C9 0 bs = C9 (acc * 16 + (lc - 87)) (bs.drop (k + 1))) := Lib.hid ⟨by omega, by rw [Nat.pow_succ]; omega, hdec.trans hF⟩
     have hbd : a * 16 + ((lc : Int) - 87) <= 4095 + 61440 * ((k + 1 : Nat) : Int) := by omega
     have hge : 0 <= a * 16 + ((lc : Int) - 87) := by omega
     have hn95 : ((c.toNat : Int) == 95) = false := by
      rw [<- Bool.not_eq_true, beq_iff_eq]; intro h; have := h95 (by omega); omega
     clear hacc hF hdec ha h95
     go_wp2_with (go_at_call 237; refine (hlw _).mono ?_; rintro e w' ⟨rfl, rfl⟩)
     all_goals first
      | (exfalso; omega)
      | (refine ⟨⟨k + 1, acc * 16 + (lc - 87), a * 16 + ((lc : Int) - 87), rfl, (by first | rfl | (congr 1; omega)), (by first | rfl | (congr 1; omega)), by omega, hge, hbd, HN⟩, by simp [intOf]; omega⟩)
    ·rw [if_neg hlet] at hF
     rw [hF] at hdec
     clear hacc hF ha
     by_cases e95 : c.toNat = 95
     ·have hw95 := fun wx => Tryz.internal_strconv_lower 95 wx
      rw [show bits .or .u8 95 32 = 127 by decide +kernel] at hw95
      have e95i : (c.toNat : Int) = 95 := by omega
      rw [e95i] at hc
      clear h95 hlw e95 e95i hdig
      go_wp2_with (go_at_call 237; refine (hw95 _).mono ?_; rintro e w' ⟨rfl, rfl⟩)
      all_goals (go_ret2; first | exact ⟨rfl, rfl⟩ | exact ⟨by rw [hdec]; rfl, rfl⟩)
     ·have hn95 : ((c.toNat : Int) == 95) = false := by
       rw [<- Bool.not_eq_true, beq_iff_eq]; intro h; omega
      clear h95 e95
      go_wp2_with (go_at_call 237; refine (hlw _).mono ?_; rintro e w' ⟨rfl, rfl⟩)
      all_goals first
       | (exfalso; omega)
       | (go_ret2; first | exact ⟨rfl, rfl⟩ | exact ⟨by rw [hdec]; rfl, rfl⟩)
  ·have hkk : k = t.size := by omega
   subst hkk
   have hF : C9 acc (bs.drop t.size) = some acc := by rw [List.drop_eq_nil_of_le (by omega)]; rfl
   rw [hF] at hdec
   subst ha
   clear hacc hF
   go_wp2
   go_ret2
   first | exact ⟨rfl, rfl⟩ | exact ⟨by rw [hdec]; rfl, rfl⟩
theorem MX (t : ByteArray) (hne : t.size ≠ 0) (hmax : t.size <= 4) (v : Nat) (h : C9 0 t.data.toList = some v) (w : World) :
  Calls Tryz.prog 236 #[.string t, .int .i64 16, .int .i64 32] w fun e w' => e = .returned (.tuple #[.int .u64 v, .nilIface]) /\ Below w.heap.size w w' := by
 have hI := GK t hne hmax w
 rw [h] at hI
 unfold Om at hI
 clear h
 go_enter Tryz.func236, Tryz.ntmps236
 go_wp2_with fail
 refine hI.mono ?_
 rintro e W1 ⟨rfl, hW⟩
 have hb1 : Below w.heap.size w W1 := by rw [hW]; exact Lib.bytesWorld_below _ _ _
 clear hW
 go_wp2
 go_ret2
 exact ⟨rfl, hb1⟩
theorem LG (t : ByteArray) (hne : t.size ≠ 0) (hmax : t.size <= 4) (h : C9 0 t.data.toList = none) (w : World) (hT : Bz w) :
  Calls Tryz.prog 236 #[.string t, .int .i64 16, .int .i64 32] w fun e w' => ∃ N, e = .returned (.tuple #[.int .u64 0, .iface 332 (.pointer (some ⟨N, 0, none⟩))]) /\ Below w.heap.size w w' := by
 have hI := GK t hne hmax w
 rw [h] at hI
 unfold Om at hI
 clear h
 obtain ⟨te, pe, hv⟩ := hT.syn
 have HV := hid hv; clear hv
 go_enter Tryz.func236, Tryz.ntmps236
 go_wp2_with fail
 refine hI.mono ?_
 rintro e W1 ⟨rfl, hW⟩
 have hb1 : Below w.heap.size w W1 := by rw [hW]; exact Lib.bytesWorld_below _ _ _
 have HV1 := hid (Ab HV.out hb1)
 clear hW HV
 go_wp2_with fail
 refine (Tryz.strconv_toError_syntax ⟨#[80, 97, 114, 115, 101, 85, 105, 110, 116]⟩ t 16 32 _ _ (by omega) HV1.out (.inr ⟨te, pe, rfl⟩)).mono ?_
 rintro e W2 ⟨N, rfl, h1, _, h3⟩
 go_wp2
 go_ret2
 exact ⟨N, rfl, hb1.trans (h3.mono hb1.size)⟩
end
section
open Go
section
variable {P : Program}
theorem J7 (w : World) (ty : TypeId) (bm since c0 : Nat) (seen : Array Nat) (es : Array MapEntry) (clock : Nat) (hb : w.heap[bm]? = some (.map es clock)) (hold : ∀ x ∈ es.toList, x.born < since) (hsc : since <= c0) :
  ((leftOf es seen).size = 0 /\ (Instr.next (.pointer (some ⟨w.heap.size, 0, none⟩)) false ty).run P (w.alloc (.mapIter (some bm) since seen c0)) = .ok (.tuple #[.bool false]) (w.alloc (.mapIter (some bm) since seen c0))) ∨
  ∃ e ∈ (leftOf es seen).toList, ∃ w1 : World, (w1 = w \/ w1 = w.drew) /\ (Instr.next (.pointer (some ⟨w.heap.size, 0, none⟩)) false ty).run P (w.alloc (.mapIter (some bm) since seen c0)) = .ok (.tuple #[.bool true, e.key, e.val]) (w1.alloc (.mapIter (some bm) since (seen.push e.born) clock)) := by
 have hlt : bm < w.heap.size := by
  rcases Nat.lt_or_ge bm w.heap.size with h | h
  ·exact h
  ·simp [Array.getElem?_eq_none h] at hb
 have hb' : (w.alloc (.mapIter (some bm) since seen c0)).heap[bm]? = some (.map es clock) := by rw [heap_alloc_old w _ hlt, hb]
 simp only [Instr.next, getObj, Sem.run_bind, Sem.run, heap_alloc_new, hb', Result.andThen, next_test_false seen es since c0 hold hsc, Bool.false_eq_true, if_false]
 unfold leftOf
 have hmem : ∀ x ∈ (Array.filter (fun e => !seen.contains e.born) es).toList, x.born < since := fun x hx => hold x (by simp at hx |-; exact hx.1)
 generalize Array.filter (fun e => !seen.contains e.born) es = L at hmem |-
 have e1 : L.filter (fun x => decide (x.born < since)) = L := Array.filter_eq_self.2 (fun x hx => by simpa using hmem x (by simpa using hx))
 have e2 : L.filter (fun x => decide (x.born ≥ since)) = #[] := by
  rw [Array.filter_eq_empty_iff]
  intro x hx
  have := hmem x (by simpa using hx)
  simp
  omega
 simp only [e1, e2, Array.append_empty]
 by_cases h0 : L.size = 0
 ·left
  have : L = #[] := Array.eq_empty_of_size_eq_zero h0
  subst this
  refine ⟨rfl, ?_⟩
  simp [choose, Sem.run, Question.forced]
 ·right
  have hne : L.isEmpty = false := by simp [Array.isEmpty, h0]
  simp only [hne, Bool.false_eq_true, if_false, Array.empty_append, Array.size_map]
  have hch : ∃ (j : Nat) (w1 : World), j < L.size /\ (w1 = w \/ w1 = w.drew) /\ (choose (Question.mapNext L.size)).run P (w.alloc (.mapIter (some bm) since seen c0)) = .ok j (w1.alloc (.mapIter (some bm) since seen c0)) := by
   by_cases hf : L.size <= 1
   ·exact ⟨0, w, by omega, .inl rfl, by simp [choose, Sem.run, Question.forced, hf]⟩
   ·exact ⟨_, w.drew, Nat.mod_lt _ (by omega), .inr rfl, by
     simp only [choose, Sem.run, Question.forced, decide_eq_true_eq, hf, if_false, Question.cut]
     rfl⟩
  obtain ⟨j, w1, hj, hal, hrun⟩ := hch
  refine ⟨L[j], by simp, w1, hal, ?_⟩
  have hsz : w1.heap.size = w.heap.size := by rcases hal with rfl | rfl <;> rfl
  have hp : ∀ (h : Array Obj) (x y : Obj), (h.push x).setIfInBounds h.size y = h.push y := by
   intro h x y
   apply Array.toList_inj.1
   simp
  have hset : ∀ (a : Option Nat) (b : Nat) (c : Array Nat) (d : Nat) (o' : Obj), (setObj w.heap.size o').run P (w1.alloc (.mapIter a b c d)) = .ok () (w1.alloc o') := fun a b c d o' => by
   simp only [setObj, Sem.run]
   rw [<- hsz, heap_alloc_new]
   show Result.ok () ({ w1.alloc (.mapIter a b c d) with heap := (w1.heap.push (.mapIter a b c d)).setIfInBounds w1.heap.size o' } : World) = _
   rw [hp]
   rfl
  simp only [hrun, Array.getElem?_map, Array.getElem?_eq_getElem hj, Option.map_some, Sem.run_bind, hset, Result.andThen]
  rfl
end
end
end Go.Proofs.YtaogfdffgdglkaaGreatDoor
