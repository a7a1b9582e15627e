import Derived.Test.YtghelkkndkbejaaGreatDoorHa
import Derived.Test.YtghelkkndkbejaaGreatDoorMn
/- What is proved: law 15's TokNames, at every input. -/
namespace Go.Proofs.YtghelkkndkbejaaGreatDoor
open Go Go.RowKit Go.Lib
set_option linter.unusedSimpArgs false
set_option linter.unusedVariables false

/-- One piece, laid as a row. -/
theorem one_tok (w : World) (k p : Nat) (S : ByteArray) : TokSl (w.alloc (.cells #[.int .i64 k, .string S, .int .i64 p] 33)) (.slice (some ⟨w.heap.size, 0, none⟩) 1 1) [⟨k, S.data.toList, p⟩] :=
  row_tok (ts := [⟨k, S.data.toList, p⟩]) (World.alloc_heap_new _ _) (by simp [tkCells]) 1
/-- The first some bytes. -/
theorem cut_some (s : ByteArray) (n : Nat) : s.extract 0 (min s.size n) = s.extract 0 n := by
  rw [Lib.extract_upto, Lib.extract_upto]
  congr 2
  by_cases h : s.size ≤ n
  · rw [Nat.min_eq_left h, List.take_of_length_le (by rw [← Lib.size_eq]; omega), List.take_of_length_le (by rw [← Lib.size_eq]; omega)]
  · rw [Nat.min_eq_right (by omega)]
theorem ne_listL {s : ByteArray} {l : List UInt8} (h : l ≠ s.data.toList) : (l == s.toList) = false := by
  rw [beq_eq_false_iff_ne, Lib.toList_data]
  exact h

/-- Read's answer where nothing is told of it but that it is none of a text's own. -/
def NotIt (S : List UInt8) (x : List Tk × Nat × Nat) : Prop := (∃ p e, x = ([], p, e) ∧ e ≠ 0) ∨ ∃ t r, x = (t :: r, 0, 0) ∧ t.str ≠ S

set_option maxRecDepth 100000 in
set_option maxHeartbeats 4000000 in
theorem TokNames_any (s : ByteArray) (w : World) (hT : Tabs w) (hE : ErrTy w) :
    Calls Tryz.prog 7 #[.string s] w fun e w' => e = .returned (.bool true) ∧ Below w.heap.size w w' := by
  have hmin : (min (s.size : Int) 30) = ((min s.size 30 : Nat) : Int) := by omega
  have hle : ((min s.size 30 : Nat) : Int) ≤ (s.size : Int) := by omega
  obtain ⟨m, hm⟩ : ∃ m, min s.size 30 = m := ⟨_, rfl⟩
  rw [hm] at hmin hle
  have hm30 : m ≤ 30 := by omega
  obtain ⟨S, hS⟩ : ∃ S, s.extract 0 m = S := ⟨_, rfl⟩
  have hSs : S.size ≤ 30 := by rw [← hS, ByteArray.size_extract]; omega
  have hR := fun X wx (hX : X.size ≤ 100000) hx => tRead_any X wx hX (hT.below hx) (hE.below hx)
  have hsh := shown_any w hT hE
  have hXa : ((⟨#[38]⟩ : ByteArray) ++ S).data.toList = 38 :: S.data.toList := by simp
  have hXb : ((⟨#[42]⟩ : ByteArray) ++ S).data.toList = 42 :: S.data.toList := by simp
  have hza : ((⟨#[38]⟩ : ByteArray) ++ S).size ≤ 100000 := by rw [ByteArray.size_append]; show 1 + S.size ≤ _; omega
  have hzb : ((⟨#[42]⟩ : ByteArray) ++ S).size ≤ 100000 := by rw [ByteArray.size_append]; show 1 + S.size ≤ _; omega
  have hIs := fun wx => isName_any S wx (by omega)
  have hRa := fun wx hx => hR _ wx hza hx
  have hRb := fun wx hx => hR _ wx hzb hx
  rw [hXa] at hRa
  rw [hXb] at hRb
  clear hT hE hR hza hzb hXa hXb hm
  cases hn : nameB S.data.toList with
  | true =>
    rw [hn] at hIs
    have hA1 : readT (38 :: S.data.toList) = ([⟨3, S.data.toList, 0⟩], 0, 0) := names_yes (c := 38) (.inl rfl) hn
    have hA2 : readT (42 :: S.data.toList) = ([⟨4, S.data.toList, 0⟩], 0, 0) := names_yes (c := 42) (.inr rfl) hn
    rw [hA1] at hRa
    rw [hA2] at hRb
    clear hA1 hA2
    clear hn
    go_enter Tryz.func7, Tryz.ntmps7
    go_wp2_with fail
    refine hsh.mono ?_
    rintro e w1 ⟨rfl, hs1⟩
    clear hsh
    go_wp2_with fail
    refine (hRa _ hs1).mono ?_
    rintro e w2 ⟨l2, rfl, hl2, hb2⟩
    replace hs1 := below_step hs1 hb2
    clear hRa hb2
    go_wp2_with fail
    refine (hRb _ hs1).mono ?_
    rintro e w3 ⟨l3, rfl, hl3, hb3⟩
    replace hs1 := below_step hs1 hb3
    replace hl2 := hl2.below hb3
    clear hRb hb3
    go_wp2_with fail
    refine (hIs _).mono ?_
    rintro e w4 ⟨rfl, hb4⟩
    replace hs1 := below_step hs1 hb4
    replace hl2 := hl2.below hb4
    replace hl3 := hl3.below hb4
    clear hIs hb4
    obtain ⟨r, hr⟩ : ∃ r, w4.heap.size = r := ⟨_, rfl⟩
    have ho := one_tok w4 3 0 S
    have ha := (Below.refl w4.heap.size w4).alloc (Nat.le_refl _) (.cells #[.int .i64 3, .string S, .int .i64 0] 33)
    replace hl2 := hl2.below ha
    replace hl3 := hl3.below ha
    replace hs1 := below_step hs1 ha
    rw [hr] at ho
    clear ha
    go_wp2_with fail
    refine (tSame_any _ _ _ _ _ hl2 ho (by simp) (by simp)).mono ?_
    rw [show decide (([⟨3, S.data.toList, 0⟩] : List Tk) = [⟨3, S.data.toList, 0⟩]) = true from decide_eq_true rfl]
    rintro e w5 ⟨rfl, hb5⟩
    replace hs1 := below_step hs1 hb5
    replace hl3 := hl3.below hb5
    clear hl2 ho hb5 hr
    obtain ⟨r, hr⟩ : ∃ r, w5.heap.size = r := ⟨_, rfl⟩
    have ho := one_tok w5 4 0 S
    have ha := (Below.refl w5.heap.size w5).alloc (Nat.le_refl _) (.cells #[.int .i64 4, .string S, .int .i64 0] 33)
    replace hl3 := hl3.below ha
    replace hs1 := below_step hs1 ha
    rw [hr] at ho
    clear ha
    go_wp2_with fail
    refine (tSame_any _ _ _ _ _ hl3 ho (by simp) (by simp)).mono ?_
    rw [show decide (([⟨4, S.data.toList, 0⟩] : List Tk) = [⟨4, S.data.toList, 0⟩]) = true from decide_eq_true rfl]
    rintro e w6 ⟨rfl, hb6⟩
    replace hs1 := below_step hs1 hb6
    clear hl3 ho hb6 hr
    go_wp2
    go_ret
    exact ⟨rfl, hs1⟩
  | false =>
    rw [hn] at hIs
    have hA : NotIt S.data.toList (readT (38 :: S.data.toList)) := names_no (.inl rfl) hn
    have hB : NotIt S.data.toList (readT (42 :: S.data.toList)) := names_no (.inr rfl) hn
    obtain ⟨xa, hxa⟩ : ∃ xa, readT (38 :: S.data.toList) = xa := ⟨_, rfl⟩
    obtain ⟨xb, hxb⟩ : ∃ xb, readT (42 :: S.data.toList) = xb := ⟨_, rfl⟩
    rw [hxa] at hA hRa
    rw [hxb] at hB hRb
    clear hn hxa hxb
    go_enter Tryz.func7, Tryz.ntmps7
    go_wp2_with fail
    refine hsh.mono ?_
    rintro e w1 ⟨rfl, hs1⟩
    clear hsh
    go_wp2_with fail
    refine (hRa _ hs1).mono ?_
    rintro e w2 ⟨l2, rfl, hl2, hb2⟩
    replace hs1 := below_step hs1 hb2
    clear hRa hb2
    go_wp2_with fail
    refine (hRb _ hs1).mono ?_
    rintro e w3 ⟨l3, rfl, hl3, hb3⟩
    replace hs1 := below_step hs1 hb3
    replace hl2 := hl2.below hb3
    clear hRb hb3
    go_wp2_with fail
    refine (hIs _).mono ?_
    rintro e w4 ⟨rfl, hb4⟩
    replace hs1 := below_step hs1 hb4
    replace hl2 := hl2.below hb4
    replace hl3 := hl3.below hb4
    clear hIs hb4
    rcases hA with ⟨p, e, rfl, he⟩ | ⟨t, r, rfl, ht⟩
    · have ce : ((e : Int) == 0) = false := by rw [beq_eq_false_iff_ne]; omega
      obtain ⟨A, ca, rfl, -⟩ := hl2
      rcases hB with ⟨p', e', rfl, he'⟩ | ⟨t', r', rfl, ht'⟩
      · have ce' : ((e' : Int) == 0) = false := by rw [beq_eq_false_iff_ne]; omega
        obtain ⟨B, cb, rfl, -⟩ := hl3
        go_wp2
        go_ret
        exact ⟨rfl, hs1⟩
      · obtain ⟨B, cb, rfl, hB⟩ := hl3
        obtain ⟨b, o, rfl, hlt, -, c1, -⟩ := hB 0 (by simp)
        have hne := ne_listL ht'
        simp at c1
        have hn0 : (0 : Int) < ((r'.length : Nat) : Int) + 1 := by omega
        clear hB ht'
        go_wp2
        go_ret
        exact ⟨rfl, hs1⟩
    · obtain ⟨A, ca, rfl, hA⟩ := hl2
      obtain ⟨a, o, rfl, hlt, -, c1, -⟩ := hA 0 (by simp)
      have hne := ne_listL ht
      simp at c1
      have hn0 : (0 : Int) < ((r.length : Nat) : Int) + 1 := by omega
      clear hA ht
      rcases hB with ⟨p', e', rfl, he'⟩ | ⟨t', r', rfl, ht'⟩
      · have ce' : ((e' : Int) == 0) = false := by rw [beq_eq_false_iff_ne]; omega
        obtain ⟨B, cb, rfl, -⟩ := hl3
        go_wp2
        go_ret
        exact ⟨rfl, hs1⟩
      · obtain ⟨B, cb, rfl, hB⟩ := hl3
        obtain ⟨b, o', rfl, hlt', -, c2, -⟩ := hB 0 (by simp)
        have hne' := ne_listL ht'
        simp at c2
        have hn0' : (0 : Int) < ((r'.length : Nat) : Int) + 1 := by omega
        clear hB ht'
        go_wp2
        go_ret
        exact ⟨rfl, hs1⟩
end Go.Proofs.YtghelkkndkbejaaGreatDoor
