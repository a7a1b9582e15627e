import Derived.Test.YtiinnnbpbnojgaaGreatDoorGi
import Derived.Test.YtiinnnbpbnojgaaGreatDoorTc
import Derived.Deep.Slices
/- What is proved: an argument that is a slice of pieces reads as a list. -/
namespace Go.Proofs.YtiinnnbpbnojgaaGreatDoor
open Go Go.ChangeShapes Go.WideShapes Go.RowKit Go.Lib

instance : Inhabited TkI := ⟨⟨0, [], 0⟩⟩
theorem add_at (b o n : Nat) : (⟨b, o, none⟩ : Addr).add n = ⟨b, o + n, none⟩ := by
  unfold Addr.add
  split <;> simp_all
theorem spot_none {W : World} {a : Addr} {v : Value} (h : W.cell? a = some v) : a.spot = none := by
  unfold World.cell? at h
  split at h
  · split at h
    · cases h
    · rename_i hs; simpa using hs
  · cases h
theorem tok_cells3 : Tryz.prog.cellsOf 39 = 3 := by kernel_rfl
theorem int_cells1 : Tryz.prog.cellsOf 3 = 1 := by kernel_rfl
theorem str_cells1 : Tryz.prog.cellsOf 9 = 1 := by kernel_rfl
set_option maxRecDepth 100000 in
theorem open_toks {H : Type} {enc : TypeId × Value → H} {W : World} {base : Nat} {v : Value} {d : DataW H} {p : List MemPlace} (hv : Value.okWide Tryz.prog W .any base 22 v) (h : DataW.Trod enc Tryz.prog W 0 (fun _ => true) true 22 v d p) :
    ∃ xs, TokIn W v xs := by
  obtain ⟨A, len, cap, rfl⟩ := okWide_slice Tryz.underlying22 hv
  obtain ⟨fuel, h⟩ := h
  rcases Deep.open_slice Tryz.underlying22 h with ⟨hc, _⟩ | ⟨a, len', cap', m, n, D, Pl, hc, _, hl, hm, hmm, _, hx⟩
  · have e : Value.slice A len cap = .slice none 0 0 := by simpa [Value.cells] using hc
    rw [e]
    exact ⟨[], TokIn.nil W⟩
  · have e : Value.slice A len cap = .slice (some a) len' cap' := by simpa [Value.cells] using hc
    rw [e]
    have hlm : len' ≤ m := by rw [hmm]; simpa using hl
    have each : ∀ i, i < m → ∃ t : TkI, W.cell? (a.add (i * 3)) = some (.int .i64 t.kind) ∧ W.cell? (a.add (i * 3 + 1)) = some (.string ⟨t.str.toArray⟩) ∧ W.cell? (a.add (i * 3 + 2)) = some (.int .i64 t.at_) := by
      intro i hi
      obtain ⟨cs', h1, h2⟩ := hx i hi
      rw [tok_cells3] at h1
      obtain ⟨_, hlen, hcell⟩ := World.cells?_some h1
      obtain ⟨ys, k, hk, hxy, _, hxl, hf⟩ := DataW.trod_struct Tryz.underlying39 h2
      match ys, hxl, cs', hlen with
      | [y0, y1, y2], _, [v0, v1, v2], _ =>
        have g0 := hf 0 _ rfl
        have g1 := hf 1 _ rfl
        have g2 := hf 2 _ rfl
        simp [int_cells1, str_cells1] at g0 g1 g2
        have e0 := hcell 0 (by omega)
        have e1 := hcell 1 (by omega)
        have e2 := hcell 2 (by omega)
        rw [Deep.add_add] at e0 e1 e2
        obtain ⟨k1, q0, _, _⟩ := DataW.trod_int Tryz.underlying3 g0
        obtain ⟨s1, q1, _, _⟩ := DataW.trod_string Tryz.underlying9 g1
        obtain ⟨p1, q2, _, _⟩ := DataW.trod_int Tryz.underlying3 g2
        have q0' : v0 = .int .i64 k1 := by simpa using q0
        have q1' : v1 = .string s1 := by simpa using q1
        have q2' : v2 = .int .i64 p1 := by simpa using q2
        subst q0' q1' q2'
        refine ⟨⟨k1, s1.data.toList, p1⟩, by simpa using e0, ?_, by simpa using e2⟩
        have : (⟨s1.data.toList.toArray⟩ : ByteArray) = s1 := by cases s1; simp
        rw [this]
        simpa using e1
    obtain ⟨f, hf⟩ := Deep.choose_lt each
    have hg : ∀ k, k < len' → ((List.range len').map f).getD k ⟨0, [], 0⟩ = f k := fun k hk => by
      simp [List.getD, hk]
    refine ⟨(List.range len').map f, ⟨some a, cap', by simp, fun k hk => ?_⟩⟩
    have hk' : k < len' := by simpa using hk
    have h0 := (hf 0 (by omega)).1
    have hsp := spot_none (show W.cell? a = some _ by simpa [Addr.add] using h0)
    obtain ⟨b, o, sp⟩ := a
    simp only at hsp
    subst hsp
    obtain ⟨c0, c1, c2⟩ := hf k (by omega)
    rw [add_at] at c0 c1 c2
    rw [hg k hk']
    exact ⟨b, o, rfl, cell_lt c0, c0, by rw [Nat.add_assoc]; exact c1, by rw [Nat.add_assoc]; exact c2⟩
end Go.Proofs.YtiinnnbpbnojgaaGreatDoor
