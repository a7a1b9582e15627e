import Derived.Test.YtccjfoldjbmnfaaDoorBase
namespace Go.Proofs.YtccjfoldjbmnfaaDoor
open Go Go.RowKit Go.Lib

theorem DecodeRune_any (s : ByteArray) (w : World) (hT : Tabs w) :
    Calls Tryd.prog 33 #[.string s] w fun e w' => e = .returned (.tuple #[.int .i32 (Lib.decodeGo s).1, .int .i64 (Lib.decodeGo s).2]) ∧ Below w.heap.size w w' :=
  Tryd.utf8_DecodeRuneInString s w hT.u8

theorem decodeGo_from (s : ByteArray) (pos : Nat) (h : pos < s.size) : Lib.decodeGo (s.extract pos s.size) = Utf8.decode s pos := by
  have h0 : (s.extract pos s.size).size ≠ 0 := by simp [ByteArray.size_extract]; omega
  unfold Lib.decodeGo
  rw [if_neg h0, ← Lib.decodeL_drop, ← Lib.decodeL_drop, List.drop_zero, Lib.extract_data, List.take_of_length_le (by rw [List.length_drop, ← Lib.size_eq]; omega)]

/-- One step of a string's iterator: what is behind it. -/
theorem decode_le (s : ByteArray) (pos : Nat) (h : pos < s.size) : pos + (Utf8.decode s pos).2 ≤ s.size ∧ 1 ≤ (Utf8.decode s pos).2 := by
  have hne : s.data.toList.drop pos ≠ [] := by
    intro e; have := congrArg List.length e; rw [List.length_drop, ← Lib.size_eq] at this; simp at this; omega
  have h1 := Lib.decodeL_le _ hne
  have h2 := Lib.decodeL_width (s.data.toList.drop pos)
  rw [Lib.decodeL_drop] at h1 h2
  rw [List.length_drop, ← Lib.size_eq] at h1
  omega
theorem drop_ne (s : ByteArray) (pos : Nat) (h : pos < s.size) : s.data.toList.drop pos ≠ [] := by
  intro e; have := congrArg List.length e; rw [List.length_drop, ← Lib.size_eq] at this; simp at this; omega

theorem validD_at_bad (s : ByteArray) (pos : Nat) (h : pos < s.size) (h1 : (Utf8.decode s pos).1 = 65533) (h2 : (Utf8.decode s pos).2 = 1) : Lib.validD (s.data.toList.drop pos) = false := by
  rw [validD_step _ (drop_ne s pos h), Lib.decodeL_drop, if_pos ⟨h1, h2⟩]
theorem validD_at (s : ByteArray) (pos : Nat) (h : pos < s.size) (h1 : ¬ ((Utf8.decode s pos).1 = 65533 ∧ (Utf8.decode s pos).2 = 1)) : Lib.validD (s.data.toList.drop pos) = Lib.validD (s.data.toList.drop (pos + (Utf8.decode s pos).2)) := by
  rw [validD_step _ (drop_ne s pos h), Lib.decodeL_drop, if_neg h1, List.drop_drop]

theorem iter_pos {w : World} {k : Nat} {s : ByteArray} {pos : Nat} (h : w.heap[k]? = some (.stringIter s pos)) : w.iterPos k = pos := by
  unfold World.iterPos; rw [h]

set_option maxHeartbeats 400000 in
theorem Right_any (s : ByteArray) (w : World) (hs : s.size ≤ 1000000) (hT : Tabs w) :
    Calls Tryd.prog 23 #[.string s] w fun e w' => e = .returned (.bool (Lib.validD s.data.toList)) ∧ Below w.heap.size w w' := by
  go_enter Tryd.func23, Tryd.ntmps23
  go_wp2
  go_loopw [2] (fun r wr => r = .bool false ∧ ∃ pos, pos ≤ s.size ∧ wr.heap[w.heap.size]? = some (.stringIter s pos) ∧ Below w.heap.size w wr ∧ Hid (Lib.validD (s.data.toList.drop pos) = Lib.validD s.data.toList)) (fun _ wr => s.size - wr.iterPos w.heap.size)
  case atStart => exact ⟨rfl, 0, by omega, World.iter_heap _ _ _, (Below.refl _ w).alloc (Nat.le_refl _) _, hid rfl⟩
  case round =>
    obtain ⟨rfl, pos, hp, hit, hb, HV⟩ := hrel
    by_cases hlt : pos < s.size
    · have hnx := fun ty => run_next_any_at (P := Tryd.prog) wr w.heap.size s pos ty hit hlt
      have hbi : Below w.heap.size w (wr.iterAt w.heap.size s (pos + (Utf8.decode s pos).2)) := below_iterAt hb (Nat.le_refl _) _ _
      have hT1 : Tabs (wr.iterAt w.heap.size s (pos + (Utf8.decode s pos).2)) := hT.below hbi
      have hD := decodeGo_from s pos hlt
      have HD := hid hD; clear hD
      have hw := decode_le s pos hlt
      go_wp2_with fail
      refine (DecodeRune_any _ _ hT1).mono ?_
      rintro e w1 ⟨rfl, hb1⟩
      rw [HD.out]
      have hit1 : w1.heap[w.heap.size]? = some (.stringIter s (pos + (Utf8.decode s pos).2)) := (hb1.block _ (by rw [iterAt_size]; exact (Array.getElem?_eq_some_iff.1 hit).1)).trans (iterAt_heap _ _ _ pos _ hit)
      have hb2 : Below w.heap.size w w1 := hbi.trans (hb1.mono hbi.size)
      have hm1 := iter_pos hit
      have hm2 := iter_pos hit1
      have HM := hid (And.intro hm1 hm2); clear hm1 hm2
      clear hit
      go_wp2
      · have h1 : ((Utf8.decode s pos).1 : Int) = 65533 := by assumption
        have h2 : (((Utf8.decode s pos).2 : Int) == 1) = true := by assumption
        go_ret
        exact ⟨by rw [← HV.out, validD_at_bad s pos hlt (by omega) (by simp at h2; omega)]; rfl, hb2⟩
      · have h2 : (((Utf8.decode s pos).2 : Int) == 1) = false := by assumption
        go_roundw
        case rel => exact ⟨rfl, _, hw.1, hit1, hb2, hid (by rw [← HV.out, validD_at s pos hlt (by simp at h2; omega)])⟩
        case measure => rw [HM.out.1, HM.out.2]; omega
      · have h1 : ¬ ((Utf8.decode s pos).1 : Int) = 65533 := by assumption
        go_roundw
        case rel => exact ⟨rfl, _, hw.1, hit1, hb2, hid (by rw [← HV.out, validD_at s pos hlt (by omega)])⟩
        case measure => rw [HM.out.1, HM.out.2]; omega
    · have hnx := fun ty => run_next_end_at (P := Tryd.prog) wr w.heap.size s pos ty hit hlt
      go_wp2
      go_ret
      have hV := HV.out
      rw [List.drop_eq_nil_of_le (by rw [← Lib.size_eq]; omega)] at hV
      exact ⟨by rw [← hV]; rfl, hb⟩
end Go.Proofs.YtccjfoldjbmnfaaDoor
