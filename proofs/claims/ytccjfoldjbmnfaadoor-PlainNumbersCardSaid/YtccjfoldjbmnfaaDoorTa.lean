/- What is proved: what a row's list of laid variables gives the walks; what a scalar that came in is. -/
import Derived.Test.YtccjfoldjbmnfaaDoorBase
import Derived.ProofKit
import Derived.OpenShut
import Derived.Carry
import Derived.Deep.DeepHandedRow
import Derived.Deep.DeepWitnessRowRef
import Derived.Lib.LaidTab
import Derived.Lib.LaidU8T
import Derived.LaidLaws
import Derived.ChangeSame
namespace Go.Proofs.YtccjfoldjbmnfaaDoor
open Go.ChangeShapes Go.WideShapes Go.RowKit Go.Lib Go.Shelf

def ren : Ren := ⟨fun x => x, fun x => if x = 5 then 5 else if x = 119 then 89 else if x = 138 then 92 else if x = 139 then 93 else x,
  fun x => if x = 3 then 0 else if x = 4 then 1 else x⟩
theorem u8types : U8Types Tryd.prog ren := ⟨by kernel_rfl, by kernel_rfl, by kernel_rfl, by kernel_rfl⟩
theorem u8extra : U8Extra Tryd.prog ren := ⟨by kernel_rfl, by kernel_rfl, by kernel_rfl, by kernel_rfl, by kernel_rfl, by kernel_rfl, by kernel_rfl⟩

theorem tabIs_of_reads {W : World} (h : VarReads Tryd.prog W "internal/strconv.uint64pow10" (tabData .u64 pow10Tab)) : TabIs Tryd.prog W "internal/strconv.uint64pow10" .u64 pow10Tab := by
  obtain ⟨g, t, cs, fuel, p, hg, hty, hvar, hd⟩ := h
  obtain rfl := Option.some.inj ((show Tryd.prog.globalNamed "internal/strconv.uint64pow10" = some 5 by kernel_rfl).symm.trans hg)
  obtain rfl := Option.some.inj ((show (Tryd.prog.globals[5]?).map (·.type) = some 114 by kernel_rfl).symm.trans hty)
  unfold TabIs
  rw [hvar, ← cells_of_tab (show Tryd.prog.underlying 114 = some (.array 20 97) by kernel_rfl) (show Tryd.prog.underlying 97 = some (.int .u64) by kernel_rfl) (by kernel_rfl) (by kernel_rfl) hd]
theorem err_of_reads {W : World} {n nm : String} {d : DataW Unit} {g : Nat} (h : VarReads Tryd.prog W n (.iface nm d)) (hg : Tryd.prog.globalNamed n = some g) (ht : (Tryd.prog.globals[g]?).map (·.type) = some 46) :
    ∃ te pe, W.cell? ⟨g, 0, none⟩ = some (.iface te pe) := by
  obtain ⟨g', t, cs, fuel, p, hg', hty, hvar, hd⟩ := h
  obtain rfl := Option.some.inj (hg.symm.trans hg')
  obtain rfl := Option.some.inj (ht.symm.trans hty)
  obtain ⟨_, u, v, hcs, _⟩ := iface_of_trod Tryd.underlying46 hd
  have := World.var?_cell hg hvar 0
  refine ⟨u, v, ?_⟩
  rw [this, ← Array.getElem?_toList, hcs]
  rfl
theorem tabs_of_reads {W : World} {d1 d2 : DataW Unit} {n1 n2 : String} (h1 : VarReads Tryd.prog W "unicode/utf8.first" firstData) (h2 : VarReads Tryd.prog W "unicode/utf8.acceptRanges" acceptData)
    (h3 : VarReads Tryd.prog W "internal/strconv.uint64pow10" (tabData .u64 pow10Tab)) (h4 : VarReads Tryd.prog W "strconv.ErrSyntax" (.iface n1 d1)) (h5 : VarReads Tryd.prog W "strconv.ErrRange" (.iface n2 d2)) : Tabs W := by
  have ht := tabIs_of_reads h3
  have hc := ht.cell (show Tryd.prog.globalNamed "internal/strconv.uint64pow10" = some 5 by kernel_rfl) 0 (by decide)
  exact ⟨cell_lt hc, utf8Tabs_of_readsT u8types u8extra h1 h2, ht, err_of_reads h4 (by kernel_rfl) (by kernel_rfl), err_of_reads h5 (by kernel_rfl) (by kernel_rfl)⟩

section
variable {H : Type} {enc : TypeId × Value → H} {W : World} {base b0 : Nat} {sp : Nat → Bool} {held : Bool} {r : Reach}
set_option maxRecDepth 100000 in
theorem open_scalar {v : Value} {d : DataW H} {ps : List MemPlace} (hval : Value.okWide Tryd.prog W r b0 23 v) (hd : DataW.Trod enc Tryd.prog W base sp held 23 v d ps) :
    ∃ (k n : Int) (s : ByteArray), v = .agg #[.int .i64 k, .int .i64 n, .string s] ∧ ps = [] := by
  obtain ⟨cs, rfl, hcs⟩ := okWide_struct Tryd.underlying23 hval
  obtain ⟨fuel, hf⟩ := hd
  obtain ⟨xs, m, _, hx, hl, hlen, hall⟩ := DataW.trod_struct Tryd.underlying23 hf
  have hc : cs.size = 3 := hcs.trans (by kernel_rfl)
  have c3 : Tryd.prog.cellsOf 3 = 1 := by kernel_rfl
  have c9 : Tryd.prog.cellsOf 9 = 1 := by kernel_rfl
  obtain ⟨l⟩ := cs
  match l, hc, xs, hlen with
  | [a0, a1, a2], _, [y0, y1, y2], _ =>
    have h0 : DataW.trod enc Tryd.prog W base sp held m 3 [a0] = some y0 := by
      have h : DataW.trod enc Tryd.prog W base sp held m 3 (List.take (Tryd.prog.cellsOf 3) [a0, a1, a2]) = some y0 := hall 0 _ rfl
      rwa [c3] at h
    have h1 : DataW.trod enc Tryd.prog W base sp held m 3 [a1] = some y1 := by
      have h : DataW.trod enc Tryd.prog W base sp held m 3 (List.take (Tryd.prog.cellsOf 3) [a1, a2]) = some y1 := hall 1 _ rfl
      rwa [c3] at h
    have h2 : DataW.trod enc Tryd.prog W base sp held m 9 [a2] = some y2 := by
      have h : DataW.trod enc Tryd.prog W base sp held m 9 (List.take (Tryd.prog.cellsOf 9) [a2]) = some y2 := hall 2 _ rfl
      rwa [c9] at h
    obtain ⟨k, e0, hy0, _⟩ := DataW.trod_int Tryd.underlying3 h0
    obtain ⟨n, e1, hy1, _⟩ := DataW.trod_int Tryd.underlying3 h1
    obtain ⟨s, e2, hy2, _⟩ := DataW.trod_string Tryd.underlying9 h2
    simp only [List.cons.injEq, and_true] at e0 e1 e2
    subst e0; subst e1; subst e2; subst hy0; subst hy1; subst hy2
    exact ⟨k, n, s, rfl, by simpa using congrArg Prod.snd hx⟩
end
end Go.Proofs.YtccjfoldjbmnfaaDoor
