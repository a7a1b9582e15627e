/- What is proved: there is a world that holds the listed variables; what each row's list gives the walks. -/
import Derived.Test.YtccjfoldjbmnfaaDoorTa
import Derived.Test.YtccjfoldjbmnfaaDoorRows
import Derived.LaidLaws
namespace Go.Proofs.YtccjfoldjbmnfaaDoor
open Go.ChangeShapes Go.WideShapes Go.RowKit Go.Lib Go.Shelf

theorem own : ownKnob Tryd.prog.godebug = none := by kernel_rfl

/-- THE WITNESS's WORLD: the settled one, the variables holding what their initialisers lay. -/
noncomputable def laidWorld (os : Os) : World :=
  let w0 := World.holding Tryd.prog os ⟨#[], #[], []⟩
  let put (h : Array Obj) (g : Nat) (cs : Array Value) : Array Obj := h.modify g fun
    | .cells _ t frozen => .cells cs t frozen
    | o => o
  let h0 := put w0.heap 0 (Lib.firstTab.map fun z => Value.int .u8 z).toArray
  let h1 := put h0 1 ((List.range 16).flatMap fun i => [Value.int .u8 (Lib.accLo i), Value.int .u8 (Lib.accHi i)]).toArray
  let h2 := put h1 2 #[.iface 110 (.pointer (some ⟨w0.heap.size, 0, none⟩))]
  let h3 := put h2 3 #[.iface 110 (.pointer (some ⟨w0.heap.size + 1, 0, none⟩))]
  let h4 := put h3 5 (Lib.pow10Tab.map fun z => Value.int .u64 z).toArray
  let h5 := put h4 6 ([0, 1, 28, 2, 29, 14, 24, 3, 30, 22, 20, 15, 25, 17, 4, 8, 31, 27, 13, 23, 21, 19, 16, 7, 26, 12, 18, 6, 11, 5, 10, 9].map fun z => Value.int .u8 z).toArray
  let h6 := put h5 7 ([0, 1, 56, 2, 57, 49, 28, 3, 61, 58, 42, 50, 38, 29, 17, 4, 62, 47, 59, 36, 45, 43, 51, 22, 53, 39, 33, 30, 24, 18, 12, 5, 63, 55, 48, 27, 60, 41, 37, 16, 46, 35, 44, 21, 52, 32, 23, 11, 54, 26, 40, 15, 34, 20, 31, 10, 25, 14, 19, 9, 13, 8, 7, 6].map fun z => Value.int .u8 z).toArray
  let h7 := h6.push (.cells #[.string ⟨#[105, 110, 118, 97, 108, 105, 100, 32, 115, 121, 110, 116, 97, 120]⟩] 112 (0, 0))
  let h8 := h7.push (.cells #[.string ⟨#[118, 97, 108, 117, 101, 32, 111, 117, 116, 32, 111, 102, 32, 114, 97, 110, 103, 101]⟩] 112 (0, 0))
  { w0 with heap := h8 }

theorem tabs_plainTells {W : World} (h : laidMetH Tryd.prog Rows.plainTellsRow.laid W) : Tabs W := by
  have h' : laidMet Tryd.prog Rows.plainTellsRow.laid W := h
  exact tabs_of_reads (laidMet.reads h' (List.mem_of_getElem? (i := 6) (by kernel_rfl))) (laidMet.reads h' (List.mem_of_getElem? (i := 3) (by kernel_rfl))) (laidMet.reads h' (List.mem_of_getElem? (i := 2) (by kernel_rfl))) (laidMet.reads h' (List.mem_of_getElem? (i := 5) rfl)) (laidMet.reads h' (List.mem_of_getElem? (i := 4) rfl))

set_option maxRecDepth 100000 in
theorem laid_met (os : Os) (args : Array Value) : laidMet Tryd.prog Rows.plainTellsRow.laid ((laidWorld os).forCall (fun _ _ => 0) ⟨#[], args, []⟩).memory :=
  laidMet_of_run' 8 (by kernel_rfl) (by kernel_rfl)
end Go.Proofs.YtccjfoldjbmnfaaDoor
