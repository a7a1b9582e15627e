import Derived.Test.YtiinnnbpbnojgaaGreatDoorWj
namespace Go.Proofs.YtiinnnbpbnojgaaGreatDoor
open Go Go.RowKit Go.Lib

theorem assoc_mem {α : Type} [BEq α] {a : α} : ∀ {l : List (α × Value)} {v : Value}, assoc a l = some v → ∃ p ∈ l, p.2 = v
  | [], _, h => by simp [assoc] at h
  | p :: l, v, h => by
    unfold assoc at h
    split at h
    · exact ⟨p, by simp, by injection h⟩
    · obtain ⟨q, hq, e⟩ := assoc_mem h
      exact ⟨q, by simp [hq], e⟩
theorem isVal_valueV (s : ByteArray) : IsVal (valueV s) := by
  unfold valueV
  split
  · rename_i v h
    obtain ⟨p, hp, rfl⟩ := assoc_mem h
    simp only [wordsL, List.mem_cons, List.not_mem_nil, or_false] at hp
    rcases hp with rfl | rfl | rfl | rfl | rfl | rfl | rfl | rfl | rfl
    · exact .inl rfl
    · exact .inl rfl
    · exact .inl rfl
    · exact .inr (.inr (.inl ⟨true, rfl⟩))
    · exact .inr (.inr (.inl ⟨false, rfl⟩))
    · exact .inr (.inl rfl)
    · exact .inr (.inl rfl)
    · exact .inr (.inl rfl)
    · exact .inr (.inl rfl)
  · split
    · unfold numV
      split
      · split
        · exact .inr (.inr (.inr (.inl ⟨_, rfl⟩)))
        · exact .inr (.inl rfl)
      · exact .inr (.inl rfl)
    · exact .inr (.inr (.inr (.inr ⟨_, rfl⟩)))

def resolveP (s : ByteArray) : Sc × Int := if !s.data.toList.isEmpty && !mayP s.data.toList false then (sc0, 51) else scalarP (valueV s)
def readP (s : ByteArray) (flow : Bool) : Sc × Int := if !mayP s.data.toList flow then (sc0, 51) else resolveP s

set_option maxRecDepth 100000 in
set_option maxHeartbeats 400000 in
theorem Resolve_any (s : ByteArray) (w : World) (hs : s.size ≤ 1000000) (hT : Tabs w) :
    Calls Tryz.prog 58 #[.string s] w fun e w' => e = .returned (.tuple #[scV (resolveP s).1, .int .i64 (resolveP s).2]) ∧ Below w.heap.size w w' := by
  have tail : ∀ w1 : World, Below w.heap.size w w1 → Tabs w1 → (s.data.toList.isEmpty = true ∨ mayP s.data.toList false = true) → resolveP s = scalarP (valueV s) := fun _ _ _ h => by
    unfold resolveP
    rcases h with h | h <;> simp [h]
  have TAIL := hid tail; clear tail
  obtain ⟨⟨⟨k, n, t⟩, er⟩, hx⟩ : ∃ p, scalarP (valueV s) = p := ⟨_, rfl⟩
  have HX := hid hx; clear hx
  have hv := isVal_valueV s
  by_cases h0 : 0 < s.size
  · have he := isEmpty_false h0
    have hne : s.data.toList.isEmpty = false := by rw [← Lib.toList_data]; exact he
    have HE := hid hne; clear hne
    go_enter Tryz.func58, Tryz.ntmps58
    go_wp2_with fail
    refine (May_any s false _ hs (hT.below ((Below.refl _ w).alloc (Nat.le_refl _) _))).mono ?_
    rintro e w1 ⟨rfl, hb1⟩
    have hbw : Below w.heap.size w w1 := ((Below.refl _ w).alloc (Nat.le_refl _) _).trans (hb1.mono (by simp))
    have hT1 := hT.below hbw
    have hk := heap_new _ _ hb1
    cases hm : mayP s.data.toList false with
    | false =>
      obtain ⟨c0, c1, c2, f0, f1, f2⟩ := blk3 hk
      have HM := hid hm; clear hm hk
      go_wp2
      refine bodyPost_ret (v := .tuple #[.agg #[.int .i64 0, .int .i64 0, .string ⟨#[]⟩], .int .i64 51]) (by simp [results, Tryz.results58, go_sem, c0, c1, c2]) rfl ⟨?_, ?_⟩
      · rw [show resolveP s = (sc0, 51) from (by unfold resolveP; rw [HE.out, HM.out]; rfl)]; rfl
      · repeat (first | exact hbw | refine Below.setCell ?_ (by simp) _)
    | true =>
      have HR := hid (TAIL.out w1 hbw hT1 (.inr hm)); clear hm
      go_wp2_with fail
      refine (value_any s _ hs hT1).mono ?_
      rintro e w2 ⟨rfl, hb2⟩
      go_wp2_with fail
      refine (scalar_any _ _ hv).mono ?_
      rw [HX.out]
      unfold scV
      rintro e w3 ⟨rfl, hb3⟩
      have hk3 := heap_below (heap_below hk hb2) hb3
      have hb03 : Below w.heap.size w w3 := (hbw.trans (hb2.mono hbw.size)).trans (hb3.mono (Nat.le_trans hbw.size hb2.size))
      obtain ⟨c0, c1, c2, f0, f1, f2⟩ := blk3 hk3
      clear hk hk3
      go_wp2
      refine bodyPost_ret (v := .tuple #[.agg #[.int .i64 k, .int .i64 n, .string t], .int .i64 er]) (by simp [results, Tryz.results58, go_sem, c0, c1, c2]) rfl ⟨?_, ?_⟩
      · rw [HR.out, HX.out]; rfl
      · repeat (first | exact hb03 | refine Below.setCell ?_ (by simp) _)
  · have he := isEmpty_true h0
    have hne : s.data.toList.isEmpty = true := by rw [← Lib.toList_data]; exact he
    have hT1 := hT.below ((Below.refl _ w).alloc (Nat.le_refl _) (.cells #[.int .i64 0, .int .i64 0, .string ⟨#[]⟩] 26))
    have HR := hid (TAIL.out _ ((Below.refl _ w).alloc (Nat.le_refl _) _) hT1 (.inl hne)); clear hne
    go_enter Tryz.func58, Tryz.ntmps58
    go_wp2_with fail
    refine (value_any s _ hs hT1).mono ?_
    rintro e w2 ⟨rfl, hb2⟩
    go_wp2_with fail
    refine (scalar_any _ _ hv).mono ?_
    rw [HX.out]
    unfold scV
    rintro e w3 ⟨rfl, hb3⟩
    have hk3 := heap_below (heap_new _ _ hb2) hb3
    have hb03 : Below w.heap.size w w3 := (((Below.refl _ w).alloc (Nat.le_refl _) _).trans (hb2.mono (by simp))).trans (hb3.mono (by have := hb2.size; simp at this; omega))
    obtain ⟨c0, c1, c2, f0, f1, f2⟩ := blk3 hk3
    clear hk3
    go_wp2
    refine bodyPost_ret (v := .tuple #[.agg #[.int .i64 k, .int .i64 n, .string t], .int .i64 er]) (by simp [results, Tryz.results58, go_sem, c0, c1, c2]) rfl ⟨?_, ?_⟩
    · rw [HR.out, HX.out]; rfl
    · repeat (first | exact hb03 | refine Below.setCell ?_ (by simp) _)
end Go.Proofs.YtiinnnbpbnojgaaGreatDoor

namespace Go.Proofs.YtiinnnbpbnojgaaGreatDoor
open Go Go.RowKit Go.Lib

/-- Is it a scalar? -/
def rightP (x : Sc) : Bool :=
  if x.kind = 0 then (x.num == 0) && x.str.data.toList.isEmpty
  else if x.kind = 1 then x.str.data.toList.isEmpty && (x.num == 0 || x.num == 1)
  else if x.kind = 2 then x.str.data.toList.isEmpty && (decide (-999999999999999 ≤ x.num) && decide (x.num ≤ 999999999999999))
  else if x.kind = 3 then (x.num == 0) && validD x.str.data.toList
  else false

end Go.Proofs.YtiinnnbpbnojgaaGreatDoor
