import Derived.Test.YtccjfoldjbmnfaaDoorWb
import Derived.Test.YtccjfoldjbmnfaaDoorPure
namespace Go.Proofs.YtccjfoldjbmnfaaDoor
open Go Go.RowKit Go.Lib
attribute [local go_sem] Oper.semAt_some

theorem wpIn_scope {P : Program} {c : Code} {Q : Exit → Act → World → Prop} {a : Act} {w : World} (h : c.wpIn Fence.wide 0 P (Exit.noGoto Q) a w) : (Code.scope c).wpIn Fence.wide 0 P Q a w :=
  wpIn_wide.2 (wp_scope_straight (wpIn_wide.1 h))
theorem wpIn_label {P : Program} {i : Nat} {Q : Exit → Act → World → Prop} {a : Act} {w : World} (h : Q .normal a w) : (Code.label i).wpIn Fence.wide 0 P Q a w :=
  wpIn_wide.2 (wp_label h)

abbrev encP (x : Nat × Nat × Nat) : Array Value := #[.int .i32 x.1, .agg #[.int .i32 x.2.1, .int .i32 x.2.2]]
/-- What is still to come of a text's pairs. -/
def remP (s : ByteArray) (pos last one : Nat) : List (Nat × Nat × Nat) := if pos = 0 then pairsGo 0 (runes s.data.toList) else pairsGo last (one :: runes (s.data.toList.drop pos))

theorem eq_empty_of_size {s : ByteArray} (h : s.size = 0) : s = ⟨#[]⟩ := by
  obtain ⟨d⟩ := s
  have h' : d.size = 0 := h
  rw [Array.size_eq_zero_iff] at h'
  rw [h']
theorem remP_first (s : ByteArray) (h : 0 < s.size) (l o : Nat) : remP s 0 l o = remP s (0 + (Utf8.decode s 0).2) 0 (Utf8.decode s 0).1 := by
  have hw := decode_le s 0 h
  unfold remP
  rw [if_pos rfl, if_neg (by omega)]
  have := drop_ne s 0 h
  have e := runes_step _ this
  rw [Lib.decodeL_drop] at e
  rw [List.drop_drop, List.drop_zero] at e
  rw [e]
theorem remP_next (s : ByteArray) (pos : Nat) (h : pos < s.size) (h0 : pos ≠ 0) (l o : Nat) : remP s pos l o = (o, l, (Utf8.decode s pos).1) :: remP s (pos + (Utf8.decode s pos).2) o (Utf8.decode s pos).1 := by
  have hw := decode_le s pos h
  unfold remP
  rw [if_neg h0, if_neg (by omega)]
  have e := runes_step _ (drop_ne s pos h)
  rw [Lib.decodeL_drop, List.drop_drop] at e
  rw [e]; rfl
theorem remP_end (s : ByteArray) (pos : Nat) (h : ¬ pos < s.size) (h0 : pos ≠ 0) (l o : Nat) : remP s pos l o = [(o, l, 0)] := by
  unfold remP
  rw [if_neg h0, List.drop_eq_nil_of_le (by rw [← Lib.size_eq]; omega)]; rfl

set_option maxRecDepth 100000 in
set_option maxHeartbeats 1000000 in
theorem pairs_iter (s : ByteArray) (Bs n₀ : Nat) (hs : s.size ≤ 1000000) :
    Iter Tryd.prog 59 #[.pointer (some ⟨Bs, 0, none⟩)] encP (· = Bs) n₀ (pairsGo 0 (runes s.data.toList)) (fun W => W.cell? ⟨Bs, 0, none⟩ = some (.string s) ∧ W.frozen? ⟨Bs, 0, none⟩ = false) := by
  intro l J Jx W ⟨hc, hf⟩ hJ hJx hY h0
  refine callsIn_of_wp Tryd.func59 rfl trivial ?_ rfl
  simp only [Tryd.ntmps59, List.size_toArray, List.length_cons, List.length_nil, Nat.reduceAdd, Nat.reduceSub, Array.replicate_succ, Array.replicate_zero, List.push_toArray, List.append_toArray, List.nil_append, List.cons_append]
  have hBs : Bs < W.heap.size := cell_lt hc
  have hne : Bs ≠ W.heap.size := by omega
  gi_wp2
  refine wpIn_scope ?_
  gi_wp2
  refine wpIn_label ?_
  gi_wp2
  gi_loopw [3, 4] (fun last one wr => ∃ (la on pos : Nat) (pre : List (Nat × Nat × Nat)), last = .int .i32 la ∧ one = .int .i32 on ∧ pos ≤ s.size ∧ wr.heap[W.heap.size]? = some (.stringIter s pos) ∧ wr.cell? ⟨Bs, 0, none⟩ = some (.string s) ∧ wr.frozen? ⟨Bs, 0, none⟩ = false ∧ J pre wr ∧ Hid (pairsGo 0 (runes s.data.toList) = pre ++ remP s pos la on) ∧ Hid (pos = 0 → pre = [] ∧ on = 0))
    (fun _ _ wr => s.size - wr.iterPos W.heap.size)
  case atStart =>
    have hb : Below W.heap.size W (W.iter s 0) := (Below.refl _ W).alloc (Nat.le_refl _) _
    exact ⟨0, 0, 0, [], rfl, rfl, by omega, World.iter_heap _ _ _, cell_below hc hb, (hb.frozen (p := ⟨Bs, 0, none⟩) hBs).trans hf, hJ _ _ _ h0 (Turn.alloc _ _), hid rfl, hid (fun _ => ⟨rfl, rfl⟩)⟩
  case round =>
    obtain ⟨la, on, pos, pre, rfl, rfl, hp, hit, hcs, hfs, hJs, HX, HP⟩ := hrel
    by_cases hlt : pos < s.size
    · have hJ1 : J pre (wr.iterAt W.heap.size s (pos + (Utf8.decode s pos).2)) := hJ _ _ _ hJs (Turn.putObj _ hit (Nat.le_refl _) rfl)
      have hit1 := iterAt_heap _ _ _ _ (pos + (Utf8.decode s pos).2) hit
      have hcs1 : (wr.iterAt W.heap.size s (pos + (Utf8.decode s pos).2)).cell? ⟨Bs, 0, none⟩ = some (.string s) := (World.cell?_of_block (a := ⟨Bs, 0, none⟩) (iterAt_other _ _ _ _ _ hne)).trans hcs
      have hfs1 : (wr.iterAt W.heap.size s (pos + (Utf8.decode s pos).2)).frozen? ⟨Bs, 0, none⟩ = false := (World.frozen?_of_block (a := ⟨Bs, 0, none⟩) (iterAt_other _ _ _ _ _ hne)).trans hfs
      have hw := decode_le s pos hlt
      have hm1 := iter_pos hit
      have hm2 := iter_pos hit1
      have HM := hid (And.intro hm1 hm2); clear hm1 hm2
      by_cases hp0 : pos = 0
      · subst hp0
        have hnx : ∀ ty, (Instr.next (.pointer (some ⟨W.heap.size, 0, none⟩)) true ty).run Tryd.prog wr = .ok (.tuple #[.bool true, .int .i64 0, .int .i32 (Utf8.decode s 0).1]) (wr.iterAt W.heap.size s (0 + (Utf8.decode s 0).2)) := fun ty => run_next_any_at (P := Tryd.prog) wr W.heap.size s 0 ty hit hlt
        clear hit hcs hfs
        simp only [Nat.zero_add] at *
        gi_wp2
        refine ⟨fun _ _ => trivial, ?_⟩
        gi_wp2
        go_roundw
        case rel => exact ⟨on, _, _, pre, rfl, rfl, hw.1, hit1, hcs1, hfs1, hJ1, hid (by rw [HX.out, remP_first s hlt, (HP.out (by first | rfl | trivial)).2, Nat.zero_add]), hid (fun h => by omega)⟩
        case measure => rw [HM.out.1, HM.out.2]; omega
      · have hnx := fun ty => run_next_any_at (P := Tryd.prog) wr W.heap.size s pos ty hit hlt
        have hpz : (0 : Int) < pos := by omega
        have hx := remP_next s pos hlt hp0 la on
        have hpre : pre ++ [(on, la, (Utf8.decode s pos).1)] <+: pairsGo 0 (runes s.data.toList) := ⟨_, by rw [HX.out, hx, List.append_assoc]; rfl⟩
        obtain ⟨fn, tmps, assign, body, hy, hR⟩ := hY pre (on, la, (Utf8.decode s pos).1) _ hJ1 hpre
        dsimp only [encP] at hy
        have HQ := hid (And.intro hx hpre); clear hx hpre
        clear hit hcs hfs
        gi_wp2
        refine ⟨rfl, hR.mono ?_⟩
        rintro e W3 (⟨rfl, hJ3, hk3⟩ | ⟨rfl, hJ3, hk3⟩)
        · have hit3 := hk3.heap hit1 (.inr (.inr rfl))
          have hcs3 := hk3.cell hcs1 (.inr rfl)
          have hfs3 := hk3.frozen hcs1 hfs1 (.inr rfl)
          have hm3 := iter_pos hit3
          have HM3 := hid hm3; clear hm3
          clear hit1 hcs1 hfs1 hy
          gi_wp2
          go_roundw
          case rel => exact ⟨on, _, _, _, rfl, rfl, hw.1, hit3, hcs3, hfs3, hJ3, hid (by rw [HX.out, HQ.out.1, List.append_assoc]; rfl), hid (fun h => by omega)⟩
          case measure => rw [HM.out.1, HM3.out]; omega
        · have hcs3 := hk3.cell hcs1 (.inr rfl)
          have hfs3 := hk3.frozen hcs1 hfs1 (.inr rfl)
          have hcs4 := World.cell?_setCell_same' W3 ⟨Bs, 0, none⟩ (.string ⟨#[]⟩) (by rw [hcs3]; rfl)
          have hJ4 : Jx _ (W3.setCell ⟨Bs, 0, none⟩ (.string ⟨#[]⟩)) := hJx _ _ _ hJ3 (Turn.setCell _ _ _ rfl)
          clear hit1 hcs1 hfs1 hy
          gi_wp2
          try simp only [Exit.noGoto_normal]
          go_end0
          exact ⟨⟨_, rfl⟩, .inr ⟨_, HQ.out.2, hJ4⟩⟩
    · have hnx := fun ty => run_next_end_at (P := Tryd.prog) wr W.heap.size s pos ty hit hlt
      by_cases hp0 : pos = 0
      · have hs0 : s.size = 0 := by omega
        obtain rfl : s = ⟨#[]⟩ := eq_empty_of_size hs0
        have hpe := (HP.out hp0).1
        subst hpe
        gi_wp2
        try simp only [Exit.noGoto_normal]
        go_end0
        exact ⟨⟨_, rfl⟩, .inl hJs⟩
      · have hne2 : s.toList.isEmpty = false := by
          rw [Lib.toList_data]
          cases h : s.data.toList with
          | nil => exact absurd (by rw [Lib.size_eq, h]; rfl) (show s.size ≠ 0 by omega)
          | cons _ _ => rfl
        have hx := remP_end s pos hlt hp0 la on
        have hall : pairsGo 0 (runes s.data.toList) = pre ++ [(on, la, 0)] := by rw [HX.out, hx]
        obtain ⟨fn, tmps, assign, body, hy, hR⟩ := hY pre (on, la, 0) _ hJs (by rw [hall]; exact List.prefix_refl _)
        simp only [encP, Int.natCast_zero] at hy
        have HA := hid hall; clear hx hall
        gi_wp2
        refine ⟨rfl, hR.mono ?_⟩
        rintro e W3 (⟨rfl, hJ3, hk3⟩ | ⟨rfl, hJ3, hk3⟩)
        · gi_wp2
          try simp only [Exit.noGoto_normal]
          go_end0
          exact ⟨⟨_, rfl⟩, .inl (by rw [HA.out]; exact hJ3)⟩
        · gi_wp2
          try simp only [Exit.noGoto_normal]
          go_end0
          exact ⟨⟨_, rfl⟩, .inr ⟨_, by rw [HA.out]; exact List.prefix_refl _, hJ3⟩⟩
end Go.Proofs.YtccjfoldjbmnfaaDoor
