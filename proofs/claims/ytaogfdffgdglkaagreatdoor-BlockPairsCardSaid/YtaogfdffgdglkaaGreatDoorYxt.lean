/- What is proved: a part of the walk of the program and of its plain laws; no condition beside those that each theorem names. -/
import Derived.Test.YtaogfdffgdglkaaGreatDoorYa
import Derived.Test.YtaogfdffgdglkaaGreatDoorYi
import Derived.Test.YtaogfdffgdglkaaGreatDoorYr
import Derived.ProofKit
import Derived.OpenShut
import Derived.Carry
import Derived.Deep.DeepHandedRow
import Derived.Deep.DeepWitnessRowRef
import Derived.Lib.LaidTab
import Derived.Lib.LaidU8T
import Derived.LaidLaws
import Derived.ChangeSame
import Derived.Test.YtaogfdffgdglkaaGreatDoorRows
import Derived.LaidHandle
import Derived.Deep.Slices
namespace Go.Proofs.YtaogfdffgdglkaaGreatDoor
open Go Go.RowKit Go.Lib
set_option linter.unusedSimpArgs false
set_option linter.unusedVariables false
section
set_option maxRecDepth 100000
open Go.ChangeShapes Go.WideShapes Go.RowKit Go.Lib Go.Shelf
def Wp : Ren := ⟨fun x => x, fun x => if x = 5 then 5 else if x = 119 then 233 else if x = 138 then 235 else if x = 139 then 236 else x,
 fun x => if x = 3 then 1 else if x = 4 then 2 else x⟩
theorem TF : U8Types Tryz.prog Wp := ⟨by kernel_rfl, by kernel_rfl, by kernel_rfl, by kernel_rfl⟩
theorem SZ : U8Extra Tryz.prog Wp := ⟨by kernel_rfl, by kernel_rfl, by kernel_rfl, by kernel_rfl, by kernel_rfl, by kernel_rfl, by kernel_rfl⟩
theorem Jo {W : World} (h : VarReads Tryz.prog W "internal/strconv.uint64pow10" (tabData .u64 pow10Tab)) : TabIs Tryz.prog W "internal/strconv.uint64pow10" .u64 pow10Tab := by
 obtain ⟨g, t, cs, fuel, p, hg, hty, hvar, hd⟩ := h
 obtain rfl := Option.some.inj ((show Tryz.prog.globalNamed "internal/strconv.uint64pow10" = some 6 by kernel_rfl).symm.trans hg)
 obtain rfl := Option.some.inj ((show (Tryz.prog.globals[6]?).map (·.type) = some 355 by kernel_rfl).symm.trans hty)
 unfold TabIs
 rw [hvar, <- cells_of_tab (show Tryz.prog.underlying 355 = some (.array 20 338) by kernel_rfl) (show Tryz.prog.underlying 338 = some (.int .u64) by kernel_rfl) (by kernel_rfl) (by kernel_rfl) hd]
theorem GJ {W : World} {n nm : String} {d : DataW Unit} {g : Nat} (h : VarReads Tryz.prog W n (.iface nm d)) (hg : Tryz.prog.globalNamed n = some g) (ht : (Tryz.prog.globals[g]?).map (·.type) = some 51) :
  ∃ te pe, W.cell? ⟨g, 0, none⟩ = some (.iface te pe) := by
 obtain ⟨g', t, cs, fuel, p, hg', hty, hvar, hd⟩ := h
 obtain rfl := Option.some.inj (hg.symm.trans hg')
 obtain rfl := Option.some.inj (ht.symm.trans hty)
 obtain ⟨_, u, v, hcs, _⟩ := iface_of_trod Tryz.underlying51 hd
 have := World.var?_cell hg hvar 0
 refine ⟨u, v, ?_⟩
 rw [this, <- Array.getElem?_toList, hcs]
 rfl
theorem JG {W : World} {d1 d2 : DataW Unit} {n1 n2 : String} (h1 : VarReads Tryz.prog W "unicode/utf8.first" firstData) (h2 : VarReads Tryz.prog W "unicode/utf8.acceptRanges" acceptData)
  (h3 : VarReads Tryz.prog W "internal/strconv.uint64pow10" (tabData .u64 pow10Tab)) (h4 : VarReads Tryz.prog W "strconv.ErrSyntax" (.iface n1 d1)) (h5 : VarReads Tryz.prog W "strconv.ErrRange" (.iface n2 d2)) : Bz W := by
 have ht := Jo h3
 have hc := ht.cell (show Tryz.prog.globalNamed "internal/strconv.uint64pow10" = some 6 by kernel_rfl) 0 (by decide)
 exact ⟨AS hc, utf8Tabs_of_readsT TF SZ h1 h2, ht, GJ h4 (by kernel_rfl) (by kernel_rfl), GJ h5 (by kernel_rfl) (by kernel_rfl)⟩
theorem own : ownKnob Tryz.prog.godebug = none := by kernel_rfl
noncomputable def Qo (os : Os) : World :=
 let w0 := World.holding Tryz.prog os ⟨#[], #[], []⟩
 let put (h : Array Obj) (g : Nat) (cs : Array Value) : Array Obj := h.modify g fun
  | .cells _ t frozen => .cells cs t frozen
  | o => o
 let h0 := put w0.heap 1 (Lib.firstTab.map fun z => Value.int .u8 z).toArray
 let h1 := put h0 2 ((List.range 16).flatMap fun i => [Value.int .u8 (Lib.accLo i), Value.int .u8 (Lib.accHi i)]).toArray
 let h2 := put h1 4 #[.iface 351 (.pointer (some ⟨w0.heap.size, 0, none⟩))]
 let h3 := put h2 5 #[.iface 351 (.pointer (some ⟨w0.heap.size + 1, 0, none⟩))]
 let h4 := put h3 6 (Lib.pow10Tab.map fun z => Value.int .u64 z).toArray
 let h5 := put h4 7 ([0, 1, 28, 2, 29, 14, 24, 3, 30, 22, 20, 15, 25, 17, 4, 8, 31, 27, 13, 23, 21, 19, 16, 7, 26, 12, 18, 6, 11, 5, 10, 9].map fun z => Value.int .u8 z).toArray
 let h6 := put h5 8 ([0, 1, 56, 2, 57, 49, 28, 3, 61, 58, 42, 50, 38, 29, 17, 4, 62, 47, 59, 36, 45, 43, 51, 22, 53, 39, 33, 30, 24, 18, 12, 5, 63, 55, 48, 27, 60, 41, 37, 16, 46, 35, 44, 21, 52, 32, 23, 11, 54, 26, 40, 15, 34, 20, 31, 10, 25, 14, 19, 9, 13, 8, 7, 6].map fun z => Value.int .u8 z).toArray
 let h6 := put h6 0 #[.iface 211 (.agg #[.pointer (some ⟨9, 51, none⟩)])]
 let h7 := h6.push (.cells #[.string ⟨#[105, 110, 118, 97, 108, 105, 100, 32, 115, 121, 110, 116, 97, 120]⟩] 353 (0, 0))
 let h8 := h7.push (.cells #[.string ⟨#[118, 97, 108, 117, 101, 32, 111, 117, 116, 32, 111, 102, 32, 114, 97, 110, 103, 101]⟩] 353 (0, 0))
 { w0 with heap := h8 }
theorem Vx {W : World} (h : laidMetH Tryz.prog Rows.blockTellsRow.laid W) : Bz W := by
 have h' : laidMet Tryz.prog (Rows.blockTellsRow.laid.filter fun x => x.2.handleName?.isNone) W /\ handlesMet Tryz.prog _ W := h
 exact JG (n1 := "*errors.errorString") (n2 := "*errors.errorString") (d1 := .ptr (.agg [.lit (.string [105, 110, 118, 97, 108, 105, 100, 32, 115, 121, 110, 116, 97, 120])])) (d2 := .ptr (.agg [.lit (.string [118, 97, 108, 117, 101, 32, 111, 117, 116, 32, 111, 102, 32, 114, 97, 110, 103, 101])])) (laidMet.reads h'.1 (List.mem_of_getElem? (i := 6) (by kernel_rfl))) (laidMet.reads h'.1 (List.mem_of_getElem? (i := 3) (by kernel_rfl))) (laidMet.reads h'.1 (List.mem_of_getElem? (i := 2) (by kernel_rfl))) (laidMet.reads h'.1 (List.mem_of_getElem? (i := 5) (by kernel_rfl))) (laidMet.reads h'.1 (List.mem_of_getElem? (i := 4) (by kernel_rfl)))
theorem et : Tryz.prog.globalNamed "errors.errorType" = some 0 := by kernel_rfl
theorem rt : (Tryz.prog.cutTypes.find? (·.1 == "internal/reflectlite.rtype")).map (·.2) = some 211 := by kernel_rfl
theorem Vo : ((List.range Tryz.prog.types.size).filter fun t => Tryz.prog.rowNamed t [101, 114, 114, 111, 114]) = [51] := by kernel_rfl
theorem UP {W : World} (h : laidMetH Tryz.prog Rows.blockTellsRow.laid W) : Cb W := by
 have h' : laidMet Tryz.prog (Rows.blockTellsRow.laid.filter fun x => x.2.handleName?.isNone) W /\ handlesMet Tryz.prog [("errors.errorType", Rows.laid_errors_errorType)] W := h
 obtain ⟨name, u, ty, e1, e2, e3, e4, e5⟩ := h'.2 _ (List.mem_singleton.2 rfl)
 have en : name = [101, 114, 114, 111, 114] := (Option.some.inj e1).symm
 subst en
 obtain rfl := Option.some.inj (rt.symm.trans e2)
 have hm : ty ∈ (List.range Tryz.prog.types.size).filter fun t => Tryz.prog.rowNamed t [101, 114, 114, 111, 114] := List.mem_filter.2 ⟨List.mem_range.2 e3, e4⟩
 rw [Vo] at hm
 obtain rfl := List.mem_singleton.1 hm
 have hh : typeHandle Tryz.prog 51 = .pointer (some ⟨9, 51, none⟩) := by kernel_rfl
 rw [hh] at e5
 simpa [Cb] using World.var?_cell et e5 0
theorem V6 (os : Os) (args : Array Value) : laidMetH Tryz.prog Rows.blockTellsRow.laid ((Qo os).forCall (fun _ _ => 0) ⟨#[], args, []⟩).memory :=
 laidMetH_of_parts (laidMet_of_run' 8 (by kernel_rfl) (by kernel_rfl)) (by kernel_rfl)
end
section
set_option maxRecDepth 100000
open Go Go.ChangeShapes Go.WideShapes Go.RowKit Go.Lib
theorem SL (b o n : Nat) : (⟨b, o, none⟩ : Addr).add n = ⟨b, o + n, none⟩ := by
 unfold Addr.add
 split <;> simp_all
theorem JY {W : World} {a : Addr} {v : Value} (h : W.cell? a = some v) : a.spot = none := by
 unfold World.cell? at h
 split at h
 ·split at h
  ·cases h
  ·rename_i hs; simpa using hs
 ·cases h
theorem PH : Tryz.prog.cellsOf 40 = 3 := by kernel_rfl
theorem NG : Tryz.prog.cellsOf 3 = 1 := by kernel_rfl
theorem Jv : Tryz.prog.cellsOf 9 = 1 := by kernel_rfl
theorem V8 {H : Type} {enc : TypeId × Value -> H} {W : World} {base : Nat} {v : Value} {d : DataW H} {p : List MemPlace} (hv : Value.okWide Tryz.prog W .any base 22 v) (h : DataW.Trod enc Tryz.prog W 0 (fun _ => true) true 22 v d p) :
  ∃ xs, Cy W v xs /\ ∀ x ∈ xs, -9223372036854775808 <= x.kind /\ x.kind <= 9223372036854775807 := by
 obtain ⟨A, len, cap, rfl⟩ := okWide_slice Tryz.underlying22 hv
 obtain ⟨fuel, h⟩ := h
 rcases Deep.open_slice Tryz.underlying22 h with ⟨hc, _⟩ | ⟨a, len', cap', m, n, D, Pl, hc, _, hl, hm, hmm, _, hx⟩
 ·have e : Value.slice A len cap = .slice none 0 0 := by simpa [Value.cells] using hc
  rw [e]
  exact ⟨[], Cy.nil W, fun x hx => by cases hx⟩
 ·have e : Value.slice A len cap = .slice (some a) len' cap' := by simpa [Value.cells] using hc
  rw [e]
  have hlm : len' <= m := by rw [hmm]; simpa using hl
  have each : ∀ i, i < m -> ∃ t : Sc, W.cell? (a.add (i * 3)) = some (.int .i64 t.kind) /\ W.cell? (a.add (i * 3 + 1)) = some (.int .i64 t.num) /\ W.cell? (a.add (i * 3 + 2)) = some (.string t.str) /\ (-9223372036854775808 <= t.kind /\ t.kind <= 9223372036854775807) := by
   intro i hi
   obtain ⟨cs', h1, h2⟩ := hx i hi
   rw [PH] at h1
   obtain ⟨_, hlen, hcell⟩ := World.cells?_some h1
   obtain ⟨ys, k, hk, hxy, _, hxl, hf⟩ := DataW.trod_struct Tryz.underlying40 h2
   match ys, hxl, cs', hlen with
   | [y0, y1, y2], _, [v0, v1, v2], _ =>
    have g0 := hf 0 _ rfl
    have g1 := hf 1 _ rfl
    have g2 := hf 2 _ rfl
    simp [NG, Jv] at g0 g1 g2
    have e0 := hcell 0 (by omega)
    have e1 := hcell 1 (by omega)
    have e2 := hcell 2 (by omega)
    rw [Deep.add_add] at e0 e1 e2
    obtain ⟨k1, q0, _, hk1⟩ := DataW.trod_int Tryz.underlying3 g0
    obtain ⟨p1, q1, _, _⟩ := DataW.trod_int Tryz.underlying3 g1
    obtain ⟨s1, q2, _, _⟩ := DataW.trod_string Tryz.underlying9 g2
    have q0' : v0 = .int .i64 k1 := by simpa using q0
    have q1' : v1 = .int .i64 p1 := by simpa using q1
    have q2' : v2 = .string s1 := by simpa using q2
    subst q0' q1' q2'
    exact ⟨⟨k1, p1, s1⟩, by simpa using e0, by simpa using e1, by simpa using e2, by simp [Lit.wf, IntKind.min, IntKind.max, IntKind.bits, IntKind.signed] at hk1; exact ⟨by show -9223372036854775808 <= k1; omega, by show k1 <= 9223372036854775807; omega⟩⟩
  obtain ⟨f, hf⟩ := Deep.choose_lt each
  have hg : ∀ k, k < len' -> ((List.range len').map f).getD k CF = f k := fun k hk => by
   simp [List.getD, hk]
  refine ⟨(List.range len').map f, ⟨some a, cap', by simp, fun k hk => ?_⟩, fun x hx => ?_⟩
  rotate_left
  ·obtain ⟨i, hi, rfl⟩ := List.mem_map.1 hx
   exact (hf i (by have := List.mem_range.1 hi; omega)).2.2.2
  have hk' : k < len' := by simpa using hk
  have h0 := (hf 0 (by omega)).1
  have hsp := JY (show W.cell? a = some _ by simpa [Addr.add] using h0)
  obtain ⟨b, o, sp⟩ := a
  simp only at hsp
  subst hsp
  obtain ⟨c0, c1, c2, _⟩ := hf k (by omega)
  rw [SL] at c0 c1 c2
  rw [hg k hk']
  exact ⟨b, o, rfl, AS c0, c0, by rw [Nat.add_assoc]; exact c1, by rw [Nat.add_assoc]; exact c2⟩
def Gj (w : World) (v : Value) (ts : List ByteArray) : Prop :=
 ∃ (A : Option Addr) (cap : Nat), v = .slice A ts.length cap /\ ∀ k, k < ts.length -> ∃ (b o : Nat), A = some ⟨b, o, none⟩ /\ b < w.heap.size /\ w.cell? ⟨b, o + k, none⟩ = some (.string (ts.getD k ⟨#[]⟩))
theorem Gj.nil (w : World) : Gj w (.slice none 0 0) [] := ⟨none, 0, rfl, fun k h => by simp at h⟩
theorem Gj.below {w w' : World} {v : Value} {ts : List ByteArray} (h : Gj w v ts) (hb : Below w.heap.size w w') : Gj w' v ts := by
 obtain ⟨A, cap, hv, hc⟩ := h
 refine ⟨A, cap, hv, fun k hk => ?_⟩
 obtain ⟨b, o, ha, hlt, h0⟩ := hc k hk
 exact ⟨b, o, ha, Nat.lt_of_lt_of_le hlt hb.size, Ab h0 hb⟩
theorem Vq {H : Type} {enc : TypeId × Value -> H} {W : World} {base : Nat} {v : Value} {d : DataW H} {p : List MemPlace} (hv : Value.okWide Tryz.prog W .any base 45 v) (h : DataW.Trod enc Tryz.prog W 0 (fun _ => true) true 45 v d p) :
  ∃ xs, Gj W v xs := by
 obtain ⟨A, len, cap, rfl⟩ := okWide_slice Tryz.underlying45 hv
 obtain ⟨fuel, h⟩ := h
 rcases Deep.open_slice Tryz.underlying45 h with ⟨hc, _⟩ | ⟨a, len', cap', m, n, D, Pl, hc, _, hl, hm, hmm, _, hx⟩
 ·have e : Value.slice A len cap = .slice none 0 0 := by simpa [Value.cells] using hc
  rw [e]
  exact ⟨[], Gj.nil W⟩
 ·have e : Value.slice A len cap = .slice (some a) len' cap' := by simpa [Value.cells] using hc
  rw [e]
  have hlm : len' <= m := by rw [hmm]; simpa using hl
  have each : ∀ i, i < m -> ∃ t : ByteArray, W.cell? (a.add i) = some (.string t) := by
   intro i hi
   obtain ⟨cs', h1, h2⟩ := hx i hi
   rw [Jv] at h1
   obtain ⟨_, hlen, hcell⟩ := World.cells?_some h1
   match cs', hlen with
   | [v0], _ =>
    have e0 := hcell 0 (by omega)
    rw [Deep.add_add] at e0
    obtain ⟨s1, q0, _, _⟩ := DataW.trod_string Tryz.underlying9 h2
    have q0' : v0 = .string s1 := by simpa using q0
    subst q0'
    exact ⟨s1, by simpa using e0⟩
  obtain ⟨f, hf⟩ := Deep.choose_lt each
  have hg : ∀ k, k < len' -> ((List.range len').map f).getD k ⟨#[]⟩ = f k := fun k hk => by
   simp [List.getD, hk]
  refine ⟨(List.range len').map f, ⟨some a, cap', by simp, fun k hk => ?_⟩⟩
  have hk' : k < len' := by simpa using hk
  have h0 := hf 0 (by omega)
  have hsp := JY (show W.cell? a = some _ by simpa [Addr.add] using h0)
  obtain ⟨b, o, sp⟩ := a
  simp only at hsp
  subst hsp
  have c0 := hf k (by omega)
  rw [SL] at c0
  rw [hg k hk']
  exact ⟨b, o, rfl, AS c0, c0⟩
end
section
open Go
theorem VT : laidOutB Tryz.prog = true := by kernel_rfl
theorem VQ : mapsRowed Tryz.prog = true := by kernel_rfl
end
end Go.Proofs.YtaogfdffgdglkaaGreatDoor
