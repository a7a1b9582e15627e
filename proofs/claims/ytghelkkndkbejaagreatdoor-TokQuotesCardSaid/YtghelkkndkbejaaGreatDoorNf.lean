import Derived.Test.YtghelkkndkbejaaGreatDoorNd
import Derived.Test.YtghelkkndkbejaaGreatDoorQq
/- What is proved: law 15's TokQuotes, at every input. -/
namespace Go.Proofs.YtghelkkndkbejaaGreatDoor
open Go Go.RowKit Go.Lib
set_option linter.unusedSimpArgs false
set_option linter.unusedVariables false

theorem flat_le : ∀ rs : List Nat, (rs.flatMap qsign).length ≤ 4 * rs.length
  | [] => by simp
  | r :: rs => by
    have h1 := qsign_le r
    have h2 := flat_le rs
    rw [List.flatMap_cons, List.length_append, List.length_cons]; omega
theorem runes_le : ∀ (n : Nat) (l : List UInt8), l.length ≤ n → (runes l).length ≤ l.length
  | n, [], _ => by simp [runes_nil]
  | 0, c :: t, h => by simp at h
  | n + 1, c :: t, h => by
    have hne : c :: t ≠ [] := by simp
    have hw := decodeL_width (c :: t)
    have hl : (c :: t).length ≤ n + 1 := h
    have ih := runes_le n ((c :: t).drop (decodeL (c :: t)).2) (by rw [List.length_drop]; omega)
    rw [List.length_drop] at ih
    rw [runes_step _ hne, List.length_cons]
    have : 0 < (c :: t).length := by simp
    omega
theorem quoteP_le (l : List UInt8) : (quoteP l).length ≤ 4 * l.length + 2 := by
  have h1 := flat_le (runes l)
  have h2 := runes_le _ l (Nat.le_refl _)
  unfold quoteP
  simp only [List.length_cons, List.length_append, List.length_nil]
  omega

set_option maxRecDepth 100000 in
set_option maxHeartbeats 4000000 in
theorem TokQuotes_any (s : ByteArray) (w : World) (hT : Tabs w) (hE : ErrTy w) :
    Calls Tryz.prog 9 #[.string s] w fun e w' => e = .returned (.bool true) ∧ Below w.heap.size w w' := by
  have hmin : (min (s.size : Int) 40) = ((min s.size 40 : Nat) : Int) := by omega
  have hle : ((min s.size 40 : Nat) : Int) ≤ (s.size : Int) := by omega
  obtain ⟨m, hm⟩ : ∃ m, min s.size 40 = m := ⟨_, rfl⟩
  rw [hm] at hmin hle
  have hm40 : m ≤ 40 := by omega
  obtain ⟨S, hS⟩ : ∃ S, s.extract 0 m = S := ⟨_, rfl⟩
  have hSs : S.size ≤ 40 := by rw [← hS, ByteArray.size_extract]; omega
  have hR := fun X wx (hX : X.size ≤ 100000) hx => tRead_any X wx hX (hT.below hx) (hE.below hx)
  have hsh := shown_any w hT hE
  have hQ := fun wx hx => Quote_any S wx (by omega) (hT.below hx)
  cases hv : validD S.data.toList with
  | false =>
    rw [show quoteV S.data.toList = .tuple #[.string ⟨#[]⟩, .int .i64 40] by unfold quoteV; rw [hv]; rfl] at hQ
    clear hv hT hE hR hm
    go_enter Tryz.func9, Tryz.ntmps9
    go_wp2_with fail
    refine hsh.mono ?_
    rintro e w1 ⟨rfl, hs1⟩
    clear hsh
    go_wp2_with fail
    refine (hQ _ hs1).mono ?_
    rintro e w2 ⟨rfl, hb2⟩
    replace hs1 := below_step hs1 hb2
    clear hQ hb2
    go_wp2
    go_ret
    exact ⟨rfl, hs1⟩
  | true =>
    obtain ⟨T, hTT⟩ : ∃ T : ByteArray, (⟨(quoteP S.data.toList).toArray⟩ : ByteArray) = T := ⟨_, rfl⟩
    rw [show quoteV S.data.toList = .tuple #[.string T, .int .i64 0] by unfold quoteV; rw [hv, ← hTT]; rfl] at hQ
    have hTl : T.data.toList = quoteP S.data.toList := by rw [← hTT]
    have hTs : T.size ≤ 162 := by
      rw [Lib.size_eq, hTl]
      have := quoteP_le S.data.toList
      rw [← Lib.size_eq] at this
      omega
    have hXb : ((((⟨#[91]⟩ : ByteArray) ++ T) ++ ⟨#[44]⟩) ++ T ++ ⟨#[93]⟩).data.toList = 91 :: (quoteP S.data.toList ++ 44 :: (quoteP S.data.toList ++ [93])) := by simp [hTl]
    have hzb : ((((⟨#[91]⟩ : ByteArray) ++ T) ++ ⟨#[44]⟩) ++ T ++ ⟨#[93]⟩).size ≤ 100000 := by
      rw [ByteArray.size_append, ByteArray.size_append, ByteArray.size_append, ByteArray.size_append]; show 1 + T.size + 1 + T.size + 1 ≤ _; omega
    have hRa := fun wx hx => hR T wx (by omega) hx
    have hRb := fun wx hx => hR _ wx hzb hx
    rw [hTl, quotes_one hv] at hRa
    rw [hXb, quotes_list hv] at hRb
    have hTz : (quoteP S.data.toList).length = T.size := by rw [Lib.size_eq, hTl]
    rw [hTz] at hRb
    clear hv hT hE hR hm hzb hXb hTl hTT hTz
    go_enter Tryz.func9, Tryz.ntmps9
    go_wp2_with fail
    refine hsh.mono ?_
    rintro e w1 ⟨rfl, hs1⟩
    clear hsh
    go_wp2_with fail
    refine (hQ _ hs1).mono ?_
    rintro e w2 ⟨rfl, hb2⟩
    replace hs1 := below_step hs1 hb2
    clear hQ hb2
    go_wp2_with fail
    refine (hRa _ hs1).mono ?_
    rintro e w3 ⟨l3, rfl, hl3, hb3⟩
    replace hs1 := below_step hs1 hb3
    clear hRa hb3
    go_wp2_with fail
    refine (hRb _ hs1).mono ?_
    rintro e w4 ⟨l4, rfl, hl4, hb4⟩
    replace hs1 := below_step hs1 hb4
    replace hl3 := hl3.below hb4
    clear hRb hb4
    obtain ⟨r, hr⟩ : ∃ r, w4.heap.size = r := ⟨_, rfl⟩
    have ha := (Below.refl w4.heap.size w4).alloc (Nat.le_refl _) (.cells #[.int .i64 2, .string S, .int .i64 0] 33)
    replace hl3 := hl3.below ha
    replace hl4 := hl4.below ha
    replace hs1 := below_step hs1 ha
    have hh1 := row_last hr #[.int .i64 2, .string S, .int .i64 0] 33
    have hz1 : (w4.alloc (.cells #[.int .i64 2, .string S, .int .i64 0] 33)).heap.size = r + 1 := by rw [World.size_alloc, hr]
    clear ha
    obtain ⟨w5, hw5⟩ : ∃ w5, w4.alloc (.cells #[.int .i64 2, .string S, .int .i64 0] 33) = w5 := ⟨_, rfl⟩
    rw [hw5] at hl3 hl4 hs1 hh1 hz1
    have HW5 := hid hw5
    clear hw5
    have ho2 : TokSl (w5.alloc (.cells #[.int .i64 8, .string ⟨#[]⟩, .int .i64 0, .int .i64 2, .string S, .int .i64 1, .int .i64 7, .string ⟨#[]⟩, .int .i64 (1 + (T.size : Int)), .int .i64 2, .string S, .int .i64 (2 + (T.size : Int)), .int .i64 9, .string ⟨#[]⟩, .int .i64 (2 + 2 * (T.size : Int))] 33)) (.slice (some ⟨w5.heap.size, 0, none⟩) 5 5) [⟨8, [], 0⟩, ⟨2, S.data.toList, 1⟩, ⟨7, [], 1 + T.size⟩, ⟨2, S.data.toList, 2 + T.size⟩, ⟨9, [], 2 + 2 * T.size⟩] :=
      row_tok (ts := [⟨8, [], 0⟩, ⟨2, S.data.toList, 1⟩, ⟨7, [], 1 + T.size⟩, ⟨2, S.data.toList, 2 + T.size⟩, ⟨9, [], 2 + 2 * T.size⟩]) (World.alloc_heap_new _ _) (by simp [tkCells]) 5
    rw [hz1] at ho2
    have ha2 := (Below.refl w5.heap.size w5).alloc (Nat.le_refl _) (.cells #[.int .i64 8, .string ⟨#[]⟩, .int .i64 0, .int .i64 2, .string S, .int .i64 1, .int .i64 7, .string ⟨#[]⟩, .int .i64 (1 + (T.size : Int)), .int .i64 2, .string S, .int .i64 (2 + (T.size : Int)), .int .i64 9, .string ⟨#[]⟩, .int .i64 (2 + 2 * (T.size : Int))] 33)
    replace hl3 := hl3.below ha2
    replace hl4 := hl4.below ha2
    replace hs1 := below_step hs1 ha2
    obtain ⟨c0, c1, c2⟩ : (w5.cell? ⟨r, 0, none⟩ = some (.int .i64 2)) ∧ (w5.cell? ⟨r, 1, none⟩ = some (.string S)) ∧ (w5.cell? ⟨r, 2, none⟩ = some (.int .i64 0)) := by
      refine ⟨?_, ?_, ?_⟩ <;> (unfold World.cell?; rw [hh1]; rfl)
    replace c0 := cell_below c0 ha2
    replace c1 := cell_below c1 ha2
    replace c2 := cell_below c2 ha2
    obtain ⟨w6, hw6⟩ : ∃ w6, w5.alloc (.cells #[.int .i64 8, .string ⟨#[]⟩, .int .i64 0, .int .i64 2, .string S, .int .i64 1, .int .i64 7, .string ⟨#[]⟩, .int .i64 (1 + (T.size : Int)), .int .i64 2, .string S, .int .i64 (2 + (T.size : Int)), .int .i64 9, .string ⟨#[]⟩, .int .i64 (2 + 2 * (T.size : Int))] 33) = w6 := ⟨_, rfl⟩
    have hz2 : w6.heap.size = r + 1 + 1 := by rw [← hw6, World.size_alloc, hz1]
    rw [hw6] at hl3 hl4 hs1 ho2 c0 c1 c2
    clear ha2 hh1
    have ho := one_tok w6 2 0 S
    have ha := (Below.refl w6.heap.size w6).alloc (Nat.le_refl _) (.cells #[.int .i64 2, .string S, .int .i64 0] 33)
    replace hl3 := hl3.below ha
    replace hl4 := hl4.below ha
    replace ho2 := ho2.below ha
    replace hs1 := below_step hs1 ha
    rw [hz2] at ho
    clear ha
    have HW6 := hid hw6
    clear hw6
    have hSame := (tSame_any _ _ _ _ _ hl3 ho (by simp) (by simp))
    rw [show decide (([⟨2, S.data.toList, 0⟩] : List Tk) = [⟨2, S.data.toList, 0⟩]) = true from decide_eq_true rfl] at hSame
    have hlast := fun wx (hx : Below (w6.alloc (.cells #[.int .i64 2, .string S, .int .i64 0] 33)).heap.size (w6.alloc (.cells #[.int .i64 2, .string S, .int .i64 0] 33)) wx) => tSame_any _ _ _ _ wx (hl4.below hx) (ho2.below hx) (by simp) (by simp)
    rw [show decide (([⟨8, [], 0⟩, ⟨2, S.data.toList, 1⟩, ⟨7, [], 1 + T.size⟩, ⟨2, S.data.toList, 2 + T.size⟩, ⟨9, [], 2 + 2 * T.size⟩] : List Tk) = [⟨8, [], 0⟩, ⟨2, S.data.toList, 1⟩, ⟨7, [], 1 + T.size⟩, ⟨2, S.data.toList, 2 + T.size⟩, ⟨9, [], 2 + 2 * T.size⟩]) = true from decide_eq_true rfl] at hlast
    have HLAST := hid hlast
    have HS1 := hid hs1
    have HSAME := hid hSame
    clear hl3 hl4 ho ho2 hlast hs1 hSame c0 c1 c2 hz1 hz2
    go_wp2_with fail
    rw [HW5.out, HW6.out]
    refine HSAME.out.mono ?_
    rintro e w7 ⟨rfl, hb7⟩
    have hs2 := below_step HS1.out hb7
    have hl5 := HLAST.out _ hb7
    clear hb7
    go_wp2_with fail
    refine hl5.mono ?_
    rintro e w8 ⟨rfl, hb8⟩
    have hs3 := below_step hs2 hb8
    clear hb8 hl5 hs2
    go_wp2
    go_ret
    exact ⟨rfl, hs3⟩
end Go.Proofs.YtghelkkndkbejaaGreatDoor
