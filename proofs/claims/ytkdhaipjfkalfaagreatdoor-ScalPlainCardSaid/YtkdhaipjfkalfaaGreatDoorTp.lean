import Derived.Test.YtkdhaipjfkalfaaGreatDoorBase
import Derived.ProofKit
import Derived.OpenShut
import Derived.Carry
import Derived.Deep.DeepHandedRow
import Derived.Deep.DeepWitnessRowRef
import Derived.Lib.LaidTab
import Derived.Lib.LaidU8T
import Derived.LaidLaws
import Derived.ChangeSame
import Derived.Test.YtkdhaipjfkalfaaGreatDoorRows
import Derived.Test.YtkdhaipjfkalfaaGreatDoorSv
import Derived.Deep.Slices
/- What is proved: what a row's list of laid variables gives the walks; what a scalar that came in is. -/
namespace Go.Proofs.YtkdhaipjfkalfaaGreatDoor
open Go.ChangeShapes Go.WideShapes Go.RowKit Go.Lib Go.Shelf

def ren : Ren := ⟨fun x => x, fun x => if x = 5 then 5 else if x = 119 then 136 else if x = 138 then 138 else if x = 139 then 139 else x,
  fun x => if x = 3 then 0 else if x = 4 then 1 else x⟩
theorem u8types : U8Types Tryz.prog ren := ⟨by kernel_rfl, by kernel_rfl, by kernel_rfl, by kernel_rfl⟩
theorem u8extra : U8Extra Tryz.prog ren := ⟨by kernel_rfl, by kernel_rfl, by kernel_rfl, by kernel_rfl, by kernel_rfl, by kernel_rfl, by kernel_rfl⟩

theorem tabIs_of_reads {W : World} (h : VarReads Tryz.prog W "internal/strconv.uint64pow10" (tabData .u64 pow10Tab)) : TabIs Tryz.prog W "internal/strconv.uint64pow10" .u64 pow10Tab := by
  obtain ⟨g, t, cs, fuel, p, hg, hty, hvar, hd⟩ := h
  obtain rfl := Option.some.inj ((show Tryz.prog.globalNamed "internal/strconv.uint64pow10" = some 2 by kernel_rfl).symm.trans hg)
  obtain rfl := Option.some.inj ((show (Tryz.prog.globals[2]?).map (·.type) = some 172 by kernel_rfl).symm.trans hty)
  unfold TabIs
  rw [hvar, ← cells_of_tab (show Tryz.prog.underlying 172 = some (.array 20 153) by kernel_rfl) (show Tryz.prog.underlying 153 = some (.int .u64) by kernel_rfl) (by kernel_rfl) (by kernel_rfl) hd]
theorem err_of_reads {W : World} {n nm : String} {d : DataW Unit} {g : Nat} (h : VarReads Tryz.prog W n (.iface nm d)) (hg : Tryz.prog.globalNamed n = some g) (ht : (Tryz.prog.globals[g]?).map (·.type) = some 86) :
    ∃ te pe, W.cell? ⟨g, 0, none⟩ = some (.iface te pe) := by
  obtain ⟨g', t, cs, fuel, p, hg', hty, hvar, hd⟩ := h
  obtain rfl := Option.some.inj (hg.symm.trans hg')
  obtain rfl := Option.some.inj (ht.symm.trans hty)
  obtain ⟨_, u, v, hcs, _⟩ := iface_of_trod Tryz.underlying86 hd
  have := World.var?_cell hg hvar 0
  refine ⟨u, v, ?_⟩
  rw [this, ← Array.getElem?_toList, hcs]
  rfl
theorem tabs_of_reads {W : World} {d1 d2 : DataW Unit} {n1 n2 : String} (h1 : VarReads Tryz.prog W "unicode/utf8.first" firstData) (h2 : VarReads Tryz.prog W "unicode/utf8.acceptRanges" acceptData)
    (h3 : VarReads Tryz.prog W "internal/strconv.uint64pow10" (tabData .u64 pow10Tab)) (h4 : VarReads Tryz.prog W "strconv.ErrSyntax" (.iface n1 d1)) (h5 : VarReads Tryz.prog W "strconv.ErrRange" (.iface n2 d2)) : Tabs W := by
  have ht := tabIs_of_reads h3
  have hc := ht.cell (show Tryz.prog.globalNamed "internal/strconv.uint64pow10" = some 2 by kernel_rfl) 0 (by decide)
  exact ⟨cell_lt hc, utf8Tabs_of_readsT u8types u8extra h1 h2, ht, err_of_reads h4 (by kernel_rfl) (by kernel_rfl), err_of_reads h5 (by kernel_rfl) (by kernel_rfl)⟩

section
variable {H : Type} {enc : TypeId × Value → H} {W : World} {base b0 : Nat} {sp : Nat → Bool} {held : Bool} {r : Reach}
set_option maxRecDepth 100000 in
theorem open_scalar {v : Value} {d : DataW H} {ps : List MemPlace} (hval : Value.okWide Tryz.prog W r b0 23 v) (hd : DataW.Trod enc Tryz.prog W base sp held 23 v d ps) :
    ∃ (k n : Int) (s : ByteArray), v = .agg #[.int .i64 k, .int .i64 n, .string s] ∧ ps = [] := by
  obtain ⟨cs, rfl, hcs⟩ := okWide_struct Tryz.underlying23 hval
  obtain ⟨fuel, hf⟩ := hd
  obtain ⟨xs, m, _, hx, hl, hlen, hall⟩ := DataW.trod_struct Tryz.underlying23 hf
  have hc : cs.size = 3 := hcs.trans (by kernel_rfl)
  have c3 : Tryz.prog.cellsOf 3 = 1 := by kernel_rfl
  have c9 : Tryz.prog.cellsOf 9 = 1 := by kernel_rfl
  obtain ⟨l⟩ := cs
  match l, hc, xs, hlen with
  | [a0, a1, a2], _, [y0, y1, y2], _ =>
    have h0 : DataW.trod enc Tryz.prog W base sp held m 3 [a0] = some y0 := by
      have h : DataW.trod enc Tryz.prog W base sp held m 3 (List.take (Tryz.prog.cellsOf 3) [a0, a1, a2]) = some y0 := hall 0 _ rfl
      rwa [c3] at h
    have h1 : DataW.trod enc Tryz.prog W base sp held m 3 [a1] = some y1 := by
      have h : DataW.trod enc Tryz.prog W base sp held m 3 (List.take (Tryz.prog.cellsOf 3) [a1, a2]) = some y1 := hall 1 _ rfl
      rwa [c3] at h
    have h2 : DataW.trod enc Tryz.prog W base sp held m 9 [a2] = some y2 := by
      have h : DataW.trod enc Tryz.prog W base sp held m 9 (List.take (Tryz.prog.cellsOf 9) [a2]) = some y2 := hall 2 _ rfl
      rwa [c9] at h
    obtain ⟨k, e0, hy0, _⟩ := DataW.trod_int Tryz.underlying3 h0
    obtain ⟨n, e1, hy1, _⟩ := DataW.trod_int Tryz.underlying3 h1
    obtain ⟨s, e2, hy2, _⟩ := DataW.trod_string Tryz.underlying9 h2
    simp only [List.cons.injEq, and_true] at e0 e1 e2
    subst e0; subst e1; subst e2; subst hy0; subst hy1; subst hy2
    exact ⟨k, n, s, rfl, by simpa using congrArg Prod.snd hx⟩
end
end Go.Proofs.YtkdhaipjfkalfaaGreatDoor

/- What is proved: there is a world that holds the listed variables; what each row's list gives the walks. -/
namespace Go.Proofs.YtkdhaipjfkalfaaGreatDoor
open Go.ChangeShapes Go.WideShapes Go.RowKit Go.Lib Go.Shelf

theorem own : ownKnob Tryz.prog.godebug = none := by kernel_rfl

/-- THE WITNESS's WORLD: the settled one, the variables holding what their initialisers lay. -/
noncomputable def laidWorld (os : Os) : World :=
  let w0 := World.holding Tryz.prog os ⟨#[], #[], []⟩
  let put (h : Array Obj) (g : Nat) (cs : Array Value) : Array Obj := h.modify g fun
    | .cells _ t frozen => .cells cs t frozen
    | o => o
  let h0 := put w0.heap 0 (Lib.firstTab.map fun z => Value.int .u8 z).toArray
  let h1 := put h0 1 ((List.range 16).flatMap fun i => [Value.int .u8 (Lib.accLo i), Value.int .u8 (Lib.accHi i)]).toArray
  let h2 := put h1 4 #[.iface 184 (.pointer (some ⟨w0.heap.size, 0, none⟩))]
  let h3 := put h2 5 #[.iface 184 (.pointer (some ⟨w0.heap.size + 1, 0, none⟩))]
  let h4 := put h3 2 (Lib.pow10Tab.map fun z => Value.int .u64 z).toArray
  let h5 := put h4 6 ([0, 1, 28, 2, 29, 14, 24, 3, 30, 22, 20, 15, 25, 17, 4, 8, 31, 27, 13, 23, 21, 19, 16, 7, 26, 12, 18, 6, 11, 5, 10, 9].map fun z => Value.int .u8 z).toArray
  let h6 := put h5 7 ([0, 1, 56, 2, 57, 49, 28, 3, 61, 58, 42, 50, 38, 29, 17, 4, 62, 47, 59, 36, 45, 43, 51, 22, 53, 39, 33, 30, 24, 18, 12, 5, 63, 55, 48, 27, 60, 41, 37, 16, 46, 35, 44, 21, 52, 32, 23, 11, 54, 26, 40, 15, 34, 20, 31, 10, 25, 14, 19, 9, 13, 8, 7, 6].map fun z => Value.int .u8 z).toArray
  let h7 := h6.push (.cells #[.string ⟨#[105, 110, 118, 97, 108, 105, 100, 32, 115, 121, 110, 116, 97, 120]⟩] 186 (0, 0))
  let h8 := h7.push (.cells #[.string ⟨#[118, 97, 108, 117, 101, 32, 111, 117, 116, 32, 111, 102, 32, 114, 97, 110, 103, 101]⟩] 186 (0, 0))
  { w0 with heap := h8 }

theorem tabs_scalTells {W : World} (h : laidMetH Tryz.prog Rows.scalTellsRow.laid W) : Tabs W := by
  have h' : laidMet Tryz.prog Rows.scalTellsRow.laid W := h
  exact tabs_of_reads (laidMet.reads h' (List.mem_of_getElem? (i := 6) (by kernel_rfl))) (laidMet.reads h' (List.mem_of_getElem? (i := 3) (by kernel_rfl))) (laidMet.reads h' (List.mem_of_getElem? (i := 2) (by kernel_rfl))) (laidMet.reads h' (List.mem_of_getElem? (i := 5) rfl)) (laidMet.reads h' (List.mem_of_getElem? (i := 4) rfl))

set_option maxRecDepth 100000 in
theorem laid_met (os : Os) (args : Array Value) : laidMet Tryz.prog Rows.scalTellsRow.laid ((laidWorld os).forCall (fun _ _ => 0) ⟨#[], args, []⟩).memory :=
  laidMet_of_run' 8 (by kernel_rfl) (by kernel_rfl)
end Go.Proofs.YtkdhaipjfkalfaaGreatDoor

/- What is proved: an argument that is a slice of scalars reads as a list. -/
namespace Go.Proofs.YtkdhaipjfkalfaaGreatDoor
open Go Go.ChangeShapes Go.WideShapes Go.RowKit Go.Lib

theorem add_at (b o n : Nat) : (⟨b, o, none⟩ : Addr).add n = ⟨b, o + n, none⟩ := by
  unfold Addr.add
  split <;> simp_all
theorem spot_none {W : World} {a : Addr} {v : Value} (h : W.cell? a = some v) : a.spot = none := by
  unfold World.cell? at h
  split at h
  · split at h
    · cases h
    · rename_i hs; simpa using hs
  · cases h
theorem sc_cells3 : Tryz.prog.cellsOf 23 = 3 := by kernel_rfl
theorem int_cells1 : Tryz.prog.cellsOf 3 = 1 := by kernel_rfl
theorem str_cells1 : Tryz.prog.cellsOf 9 = 1 := by kernel_rfl
set_option maxRecDepth 100000 in
theorem open_scals {H : Type} {enc : TypeId × Value → H} {W : World} {base : Nat} {v : Value} {d : DataW H} {p : List MemPlace} (hv : Value.okWide Tryz.prog W .any base 34 v) (h : DataW.Trod enc Tryz.prog W 0 (fun _ => true) true 34 v d p) :
    ∃ xs, ScIn W v xs := by
  obtain ⟨A, len, cap, rfl⟩ := okWide_slice Tryz.underlying34 hv
  obtain ⟨fuel, h⟩ := h
  rcases Deep.open_slice Tryz.underlying34 h with ⟨hc, _⟩ | ⟨a, len', cap', m, n, D, Pl, hc, _, hl, hm, hmm, _, hx⟩
  · have e : Value.slice A len cap = .slice none 0 0 := by simpa [Value.cells] using hc
    rw [e]
    exact ⟨[], ScIn.nil W⟩
  · have e : Value.slice A len cap = .slice (some a) len' cap' := by simpa [Value.cells] using hc
    rw [e]
    have hlm : len' ≤ m := by rw [hmm]; simpa using hl
    have each : ∀ i, i < m → ∃ t : Sc, W.cell? (a.add (i * 3)) = some (.int .i64 t.kind) ∧ W.cell? (a.add (i * 3 + 1)) = some (.int .i64 t.num) ∧ W.cell? (a.add (i * 3 + 2)) = some (.string t.str) := by
      intro i hi
      obtain ⟨cs', h1, h2⟩ := hx i hi
      rw [sc_cells3] at h1
      obtain ⟨_, hlen, hcell⟩ := World.cells?_some h1
      obtain ⟨ys, k, hk, hxy, _, hxl, hf⟩ := DataW.trod_struct Tryz.underlying23 h2
      match ys, hxl, cs', hlen with
      | [y0, y1, y2], _, [v0, v1, v2], _ =>
        have g0 := hf 0 _ rfl
        have g1 := hf 1 _ rfl
        have g2 := hf 2 _ rfl
        simp [int_cells1, str_cells1] at g0 g1 g2
        have e0 := hcell 0 (by omega)
        have e1 := hcell 1 (by omega)
        have e2 := hcell 2 (by omega)
        rw [Deep.add_add] at e0 e1 e2
        obtain ⟨k1, q0, _, _⟩ := DataW.trod_int Tryz.underlying3 g0
        obtain ⟨p1, q1, _, _⟩ := DataW.trod_int Tryz.underlying3 g1
        obtain ⟨s1, q2, _, _⟩ := DataW.trod_string Tryz.underlying9 g2
        have q0' : v0 = .int .i64 k1 := by simpa using q0
        have q1' : v1 = .int .i64 p1 := by simpa using q1
        have q2' : v2 = .string s1 := by simpa using q2
        subst q0' q1' q2'
        exact ⟨⟨k1, p1, s1⟩, by simpa using e0, by simpa using e1, by simpa using e2⟩
    obtain ⟨f, hf⟩ := Deep.choose_lt each
    have hg : ∀ k, k < len' → ((List.range len').map f).getD k sc0 = f k := fun k hk => by
      simp [List.getD, hk]
    refine ⟨(List.range len').map f, ⟨some a, cap', by simp, fun k hk => ?_⟩⟩
    have hk' : k < len' := by simpa using hk
    have h0 := (hf 0 (by omega)).1
    have hsp := spot_none (show W.cell? a = some _ by simpa [Addr.add] using h0)
    obtain ⟨b, o, sp⟩ := a
    simp only at hsp
    subst hsp
    obtain ⟨c0, c1, c2⟩ := hf k (by omega)
    rw [add_at] at c0 c1 c2
    rw [hg k hk']
    exact ⟨b, o, rfl, cell_lt c0, c0, by rw [Nat.add_assoc]; exact c1, by rw [Nat.add_assoc]; exact c2⟩
end Go.Proofs.YtkdhaipjfkalfaaGreatDoor
