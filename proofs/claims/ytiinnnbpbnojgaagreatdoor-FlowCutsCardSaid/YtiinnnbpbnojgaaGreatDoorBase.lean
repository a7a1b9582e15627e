/- What is proved: small things that all walks of this seat lean on; the library's tables as a premise of the world. -/
import Derived.Test.YtiinnnbpbnojgaaGreatDoorProg
import Derived.Test.YtiinnnbpbnojgaaGreatDoorShelf
import Derived.Test.YtiinnnbpbnojgaaGreatDoorLoop
import Derived.WalkKit
import Derived.WalkSpells
import Derived.WalkLawsBesides
import Derived.OwnWalkIn
import Derived.TacticsInMore
import Derived.LoopNIn
import Derived.LoopIn
import Derived.Shelf.Abstract
import Derived.Shelf.RegionOpen
import Derived.Lib.OthersKept
import Derived.Lib.ValidLaws
namespace Go.Proofs.YtiinnnbpbnojgaaGreatDoor
open Go Go.RowKit

theorem hid {p : Prop} (h : p) : RowKit.Hid p := h

theorem wide_fn (f : FuncId) : Fence.wide.fn f = True := rfl
theorem wide_depth : Fence.wide.depth = none := rfl

/-- The cells of a block that is known whole. -/
theorem blk3 {w : World} {b : Nat} {t : TypeId} {v0 v1 v2 : Value} (h : w.heap[b]? = some (.cells #[v0, v1, v2] t)) :
    w.cell? ⟨b, 0, none⟩ = some v0 ∧ w.cell? ⟨b, 1, none⟩ = some v1 ∧ w.cell? ⟨b, 2, none⟩ = some v2 ∧ w.frozen? ⟨b, 0, none⟩ = false ∧ w.frozen? ⟨b, 1, none⟩ = false ∧ w.frozen? ⟨b, 2, none⟩ = false := by
  simp [World.cell?, World.frozen?, h]
theorem heap_new (w : World) (o : Obj) {w' : World} (hb : Below (w.alloc o).heap.size (w.alloc o) w') : w'.heap[w.heap.size]? = some o :=
  (hb.block _ (by simp)).trans (World.alloc_heap_new w o)
theorem heap_below {w w' : World} {k : Nat} {o : Obj} (h : w.heap[k]? = some o) (hb : Below w.heap.size w w') : w'.heap[k]? = some o :=
  (hb.block k (Array.getElem?_eq_some_iff.1 h).1).trans h

/-- The library's tables and variables, as their initialisers lay them. -/
structure Tabs (w : World) : Prop where
  sz : 6 < w.heap.size
  u8 : Lib.Utf8Tabs 1 2 w
  pow : Lib.TabIs Tryz.prog w "internal/strconv.uint64pow10" .u64 Lib.pow10Tab
  syn : ∃ te pe, w.cell? ⟨4, 0, none⟩ = some (.iface te pe)
  rng : ∃ te pe, w.cell? ⟨5, 0, none⟩ = some (.iface te pe)

theorem cell_lt {w : World} {k o : Nat} {v : Value} (h : w.cell? ⟨k, o, none⟩ = some v) : k < w.heap.size := by
  obtain ⟨x, hx, _⟩ := cells_of_cell h
  exact (Array.getElem?_eq_some_iff.1 hx).1
theorem cell_below {w w' : World} {k o : Nat} {v : Value} (h : w.cell? ⟨k, o, none⟩ = some v) (hb : Below w.heap.size w w') : w'.cell? ⟨k, o, none⟩ = some v :=
  (hb.cell (p := ⟨k, o, none⟩) (cell_lt h)).trans h

theorem frozen_below {w w' : World} {k o : Nat} {v : Value} {b : Bool} (h : w.cell? ⟨k, o, none⟩ = some v) (hf : w.frozen? ⟨k, o, none⟩ = b) (hb : Below w.heap.size w w') : w'.frozen? ⟨k, o, none⟩ = b :=
  (hb.frozen (p := ⟨k, o, none⟩) (cell_lt h)).trans hf

theorem Tabs.below {w w' : World} (h : Tabs w) (hb : Below w.heap.size w w') : Tabs w' := by
  refine ⟨Nat.lt_of_lt_of_le h.sz hb.size, ⟨fun c hc => cell_below (h.u8.1 c hc) hb, fun i hi => ⟨cell_below (h.u8.2 i hi).1 hb, cell_below (h.u8.2 i hi).2 hb⟩⟩, ?_, ?_, ?_⟩
  · exact var?_below (g := 6) hb (by kernel_rfl) h.sz h.pow
  · obtain ⟨te, pe, hc⟩ := h.syn; exact ⟨te, pe, cell_below hc hb⟩
  · obtain ⟨te, pe, hc⟩ := h.rng; exact ⟨te, pe, cell_below hc hb⟩
end Go.Proofs.YtiinnnbpbnojgaaGreatDoor
