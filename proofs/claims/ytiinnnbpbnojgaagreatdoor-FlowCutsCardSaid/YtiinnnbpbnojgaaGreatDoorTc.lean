import Derived.Test.YtiinnnbpbnojgaaGreatDoorBase
import Derived.ProofKit
import Derived.OpenShut
import Derived.Carry
import Derived.Deep.DeepHandedRow
import Derived.Deep.DeepWitnessRowRef
import Derived.Lib.LaidTab
import Derived.Lib.LaidU8T
import Derived.LaidLaws
import Derived.ChangeSame
import Derived.Test.YtiinnnbpbnojgaaGreatDoorRows
import Derived.LaidHandle
import Derived.Test.YtiinnnbpbnojgaaGreatDoorKa
/- What is proved: what a row's list of laid variables gives the walks; what a scalar that came in is. -/
namespace Go.Proofs.YtiinnnbpbnojgaaGreatDoor
open Go.ChangeShapes Go.WideShapes Go.RowKit Go.Lib Go.Shelf

def ren : Ren := ⟨fun x => x, fun x => if x = 5 then 5 else if x = 119 then 288 else if x = 138 then 290 else if x = 139 then 291 else x,
  fun x => if x = 3 then 1 else if x = 4 then 2 else x⟩
theorem u8types : U8Types Tryz.prog ren := ⟨by kernel_rfl, by kernel_rfl, by kernel_rfl, by kernel_rfl⟩
theorem u8extra : U8Extra Tryz.prog ren := ⟨by kernel_rfl, by kernel_rfl, by kernel_rfl, by kernel_rfl, by kernel_rfl, by kernel_rfl, by kernel_rfl⟩

theorem tabIs_of_reads {W : World} (h : VarReads Tryz.prog W "internal/strconv.uint64pow10" (tabData .u64 pow10Tab)) : TabIs Tryz.prog W "internal/strconv.uint64pow10" .u64 pow10Tab := by
  obtain ⟨g, t, cs, fuel, p, hg, hty, hvar, hd⟩ := h
  obtain rfl := Option.some.inj ((show Tryz.prog.globalNamed "internal/strconv.uint64pow10" = some 6 by kernel_rfl).symm.trans hg)
  obtain rfl := Option.some.inj ((show (Tryz.prog.globals[6]?).map (·.type) = some 357 by kernel_rfl).symm.trans hty)
  unfold TabIs
  rw [hvar, ← cells_of_tab (show Tryz.prog.underlying 357 = some (.array 20 337) by kernel_rfl) (show Tryz.prog.underlying 337 = some (.int .u64) by kernel_rfl) (by kernel_rfl) (by kernel_rfl) hd]
theorem err_of_reads {W : World} {n nm : String} {d : DataW Unit} {g : Nat} (h : VarReads Tryz.prog W n (.iface nm d)) (hg : Tryz.prog.globalNamed n = some g) (ht : (Tryz.prog.globals[g]?).map (·.type) = some 74) :
    ∃ te pe, W.cell? ⟨g, 0, none⟩ = some (.iface te pe) := by
  obtain ⟨g', t, cs, fuel, p, hg', hty, hvar, hd⟩ := h
  obtain rfl := Option.some.inj (hg.symm.trans hg')
  obtain rfl := Option.some.inj (ht.symm.trans hty)
  obtain ⟨_, u, v, hcs, _⟩ := iface_of_trod Tryz.underlying74 hd
  have := World.var?_cell hg hvar 0
  refine ⟨u, v, ?_⟩
  rw [this, ← Array.getElem?_toList, hcs]
  rfl
theorem tabs_of_reads {W : World} {d1 d2 : DataW Unit} {n1 n2 : String} (h1 : VarReads Tryz.prog W "unicode/utf8.first" firstData) (h2 : VarReads Tryz.prog W "unicode/utf8.acceptRanges" acceptData)
    (h3 : VarReads Tryz.prog W "internal/strconv.uint64pow10" (tabData .u64 pow10Tab)) (h4 : VarReads Tryz.prog W "strconv.ErrSyntax" (.iface n1 d1)) (h5 : VarReads Tryz.prog W "strconv.ErrRange" (.iface n2 d2)) : Tabs W := by
  have ht := tabIs_of_reads h3
  have hc := ht.cell (show Tryz.prog.globalNamed "internal/strconv.uint64pow10" = some 6 by kernel_rfl) 0 (by decide)
  exact ⟨cell_lt hc, utf8Tabs_of_readsT u8types u8extra h1 h2, ht, err_of_reads h4 (by kernel_rfl) (by kernel_rfl), err_of_reads h5 (by kernel_rfl) (by kernel_rfl)⟩

end Go.Proofs.YtiinnnbpbnojgaaGreatDoor

/- What is proved: there is a world that holds the listed variables; what each row's list gives the walks. -/
namespace Go.Proofs.YtiinnnbpbnojgaaGreatDoor
open Go.ChangeShapes Go.WideShapes Go.RowKit Go.Lib Go.Shelf

theorem own : ownKnob Tryz.prog.godebug = none := by kernel_rfl

/-- THE WITNESS's WORLD: the settled one, the variables holding what their initialisers lay. -/
noncomputable def laidWorld (os : Os) : World :=
  let w0 := World.holding Tryz.prog os ⟨#[], #[], []⟩
  let put (h : Array Obj) (g : Nat) (cs : Array Value) : Array Obj := h.modify g fun
    | .cells _ t frozen => .cells cs t frozen
    | o => o
  let h0 := put w0.heap 1 (Lib.firstTab.map fun z => Value.int .u8 z).toArray
  let h1 := put h0 2 ((List.range 16).flatMap fun i => [Value.int .u8 (Lib.accLo i), Value.int .u8 (Lib.accHi i)]).toArray
  let h2 := put h1 4 #[.iface 353 (.pointer (some ⟨w0.heap.size, 0, none⟩))]
  let h3 := put h2 5 #[.iface 353 (.pointer (some ⟨w0.heap.size + 1, 0, none⟩))]
  let h4 := put h3 6 (Lib.pow10Tab.map fun z => Value.int .u64 z).toArray
  let h5 := put h4 7 ([0, 1, 28, 2, 29, 14, 24, 3, 30, 22, 20, 15, 25, 17, 4, 8, 31, 27, 13, 23, 21, 19, 16, 7, 26, 12, 18, 6, 11, 5, 10, 9].map fun z => Value.int .u8 z).toArray
  let h6 := put h5 8 ([0, 1, 56, 2, 57, 49, 28, 3, 61, 58, 42, 50, 38, 29, 17, 4, 62, 47, 59, 36, 45, 43, 51, 22, 53, 39, 33, 30, 24, 18, 12, 5, 63, 55, 48, 27, 60, 41, 37, 16, 46, 35, 44, 21, 52, 32, 23, 11, 54, 26, 40, 15, 34, 20, 31, 10, 25, 14, 19, 9, 13, 8, 7, 6].map fun z => Value.int .u8 z).toArray
  let h6 := put h6 0 #[.iface 258 (.agg #[.pointer (some ⟨9, 74, none⟩)])]
  let h7 := h6.push (.cells #[.string ⟨#[105, 110, 118, 97, 108, 105, 100, 32, 115, 121, 110, 116, 97, 120]⟩] 355 (0, 0))
  let h8 := h7.push (.cells #[.string ⟨#[118, 97, 108, 117, 101, 32, 111, 117, 116, 32, 111, 102, 32, 114, 97, 110, 103, 101]⟩] 355 (0, 0))
  { w0 with heap := h8 }

theorem tabs_laid {W : World} (h : laidMetH Tryz.prog Rows.flowMovesRow.laid W) : Tabs W := by
  have h' : laidMet Tryz.prog (Rows.flowMovesRow.laid.filter fun x => x.2.handleName?.isNone) W ∧ handlesMet Tryz.prog _ W := h
  exact tabs_of_reads (n1 := "*errors.errorString") (n2 := "*errors.errorString") (d1 := .ptr (.agg [.lit (.string [105, 110, 118, 97, 108, 105, 100, 32, 115, 121, 110, 116, 97, 120])])) (d2 := .ptr (.agg [.lit (.string [118, 97, 108, 117, 101, 32, 111, 117, 116, 32, 111, 102, 32, 114, 97, 110, 103, 101])])) (laidMet.reads h'.1 (List.mem_of_getElem? (i := 6) (by kernel_rfl))) (laidMet.reads h'.1 (List.mem_of_getElem? (i := 3) (by kernel_rfl))) (laidMet.reads h'.1 (List.mem_of_getElem? (i := 2) (by kernel_rfl))) (laidMet.reads h'.1 (List.mem_of_getElem? (i := 5) (by kernel_rfl))) (laidMet.reads h'.1 (List.mem_of_getElem? (i := 4) (by kernel_rfl)))

theorem et : Tryz.prog.globalNamed "errors.errorType" = some 0 := by kernel_rfl
theorem rt : (Tryz.prog.cutTypes.find? (·.1 == "internal/reflectlite.rtype")).map (·.2) = some 258 := by kernel_rfl
theorem oneRow : ((List.range Tryz.prog.types.size).filter fun t => Tryz.prog.rowNamed t [101, 114, 114, 111, 114]) = [74] := by kernel_rfl
theorem errTy_laid {W : World} (h : laidMetH Tryz.prog Rows.flowMovesRow.laid W) : ErrTy W := by
  have h' : laidMet Tryz.prog (Rows.flowMovesRow.laid.filter fun x => x.2.handleName?.isNone) W ∧ handlesMet Tryz.prog [("errors.errorType", Rows.laid_errors_errorType)] W := h
  obtain ⟨name, u, ty, e1, e2, e3, e4, e5⟩ := h'.2 _ (List.mem_singleton.2 rfl)
  have en : name = [101, 114, 114, 111, 114] := (Option.some.inj e1).symm
  subst en
  obtain rfl := Option.some.inj (rt.symm.trans e2)
  have hm : ty ∈ (List.range Tryz.prog.types.size).filter fun t => Tryz.prog.rowNamed t [101, 114, 114, 111, 114] := List.mem_filter.2 ⟨List.mem_range.2 e3, e4⟩
  rw [oneRow] at hm
  obtain rfl := List.mem_singleton.1 hm
  have hh : typeHandle Tryz.prog 74 = .pointer (some ⟨9, 74, none⟩) := by kernel_rfl
  rw [hh] at e5
  simpa [ErrTy] using World.var?_cell et e5 0

set_option maxRecDepth 100000 in
theorem laid_met (os : Os) (args : Array Value) : laidMetH Tryz.prog Rows.flowMovesRow.laid ((laidWorld os).forCall (fun _ _ => 0) ⟨#[], args, []⟩).memory :=
  laidMetH_of_parts (laidMet_of_run' 8 (by kernel_rfl) (by kernel_rfl)) (by kernel_rfl)
end Go.Proofs.YtiinnnbpbnojgaaGreatDoor
