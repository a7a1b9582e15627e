import Derived.Test.YtghelkkndkbejaaGreatDoorNd
import Derived.Test.YtghelkkndkbejaaGreatDoorMp
/- What is proved: law 15's TokPlains, at every input. -/
namespace Go.Proofs.YtghelkkndkbejaaGreatDoor
open Go Go.RowKit Go.Lib
set_option linter.unusedSimpArgs false
set_option linter.unusedVariables false

set_option maxRecDepth 100000 in
set_option maxHeartbeats 4000000 in
theorem TokPlains_any (s : ByteArray) (w : World) (hT : Tabs w) (hE : ErrTy w) :
    Calls Tryz.prog 8 #[.string s] w fun e w' => e = .returned (.bool true) ∧ Below w.heap.size w w' := by
  have hmin : (min (s.size : Int) 100) = ((min s.size 100 : Nat) : Int) := by omega
  have hle : ((min s.size 100 : Nat) : Int) ≤ (s.size : Int) := by omega
  obtain ⟨m, hm⟩ : ∃ m, min s.size 100 = m := ⟨_, rfl⟩
  rw [hm] at hmin hle
  have hm30 : m ≤ 100 := by omega
  obtain ⟨S, hS⟩ : ∃ S, s.extract 0 m = S := ⟨_, rfl⟩
  have hSs : S.size ≤ 100 := by rw [← hS, ByteArray.size_extract]; omega
  have hR := fun X wx (hX : X.size ≤ 100000) hx => tRead_any X wx hX (hT.below hx) (hE.below hx)
  have hsh := shown_any w hT hE
  have hXb : (((⟨#[91]⟩ : ByteArray) ++ S) ++ ⟨#[93]⟩).data.toList = 91 :: (S.data.toList ++ [93]) := by simp
  have hzb : (((⟨#[91]⟩ : ByteArray) ++ S) ++ ⟨#[93]⟩).size ≤ 100000 := by rw [ByteArray.size_append, ByteArray.size_append]; show 1 + S.size + 1 ≤ _; omega
  have hM := fun flow wx hx => May_any S flow wx (by omega) (hT.below hx)
  have hRa := fun wx hx => hR S wx (by omega) hx
  have hRb := fun wx hx => hR _ wx hzb hx
  rw [hXb] at hRb
  have hA : mayP S.data.toList false = true → readT S.data.toList = ([⟨1, S.data.toList, 0⟩], 0, 0) := plains_one
  have hB : mayP S.data.toList true = true → readT (91 :: (S.data.toList ++ [93])) = ([⟨8, [], 0⟩, ⟨1, S.data.toList, 1⟩, ⟨9, [], 1 + S.data.toList.length⟩], 0, 0) := plains_list
  have hmono : mayP S.data.toList true = true → mayP S.data.toList false = true := may_mono2 _
  rw [← Lib.size_eq] at hB
  obtain ⟨xa, hxa⟩ : ∃ xa, readT S.data.toList = xa := ⟨_, rfl⟩
  obtain ⟨xb, hxb⟩ : ∃ xb, readT (91 :: (S.data.toList ++ [93])) = xb := ⟨_, rfl⟩
  rw [hxa] at hA hRa
  rw [hxb] at hB hRb
  obtain ⟨m0, hm0⟩ : ∃ b, mayP S.data.toList false = b := ⟨_, rfl⟩
  obtain ⟨m1, hm1⟩ : ∃ b, mayP S.data.toList true = b := ⟨_, rfl⟩
  rw [hm0] at hA hmono
  rw [hm1] at hB hmono
  have hM0 := hM false
  have hM1 := hM true
  rw [hm0] at hM0
  rw [hm1] at hM1
  have HA := hid hA
  have HB := hid hB
  have HMO := hid hmono
  clear hT hE hR hzb hXb hm hxa hxb hm0 hm1 hM hA hB hmono
  go_enter Tryz.func8, Tryz.ntmps8
  go_wp2_with fail
  refine hsh.mono ?_
  rintro e w1 ⟨rfl, hs1⟩
  clear hsh
  go_wp2_with fail
  refine (hRa _ hs1).mono ?_
  rintro e w2 ⟨l2, rfl, hl2, hb2⟩
  replace hs1 := below_step hs1 hb2
  clear hRa hb2
  go_wp2_with fail
  refine (hRb _ hs1).mono ?_
  rintro e w3 ⟨l3, rfl, hl3, hb3⟩
  replace hs1 := below_step hs1 hb3
  replace hl2 := hl2.below hb3
  clear hRb hb3
  go_wp2_with fail
  refine (hM0 _ hs1).mono ?_
  rintro e w4 ⟨rfl, hb4⟩
  replace hs1 := below_step hs1 hb4
  replace hl2 := hl2.below hb4
  replace hl3 := hl3.below hb4
  clear hM0 hb4
  cases m0 with
  | false =>
    cases m1 with
    | true => exact absurd (HMO.out rfl) (by decide)
    | false =>
      go_wp2_with fail
      refine (hM1 _ hs1).mono ?_
      rintro e w5 ⟨rfl, hb5⟩
      go_wp2
      go_ret
      exact ⟨rfl, below_step hs1 hb5⟩
  | true =>
    have hxa := HA.out rfl
    subst xa
    obtain ⟨r, hr⟩ : ∃ r, w4.heap.size = r := ⟨_, rfl⟩
    have ho := one_tok w4 1 0 S
    have ha := (Below.refl w4.heap.size w4).alloc (Nat.le_refl _) (.cells #[.int .i64 1, .string S, .int .i64 0] 33)
    replace hl2 := hl2.below ha
    replace hl3 := hl3.below ha
    replace hs1 := below_step hs1 ha
    rw [hr] at ho
    clear ha
    go_wp2_with fail
    refine (tSame_any _ _ _ _ _ hl2 ho (by simp) (by simp)).mono ?_
    rw [show decide (([⟨1, S.data.toList, 0⟩] : List Tk) = [⟨1, S.data.toList, 0⟩]) = true from decide_eq_true rfl]
    rintro e w5 ⟨rfl, hb5⟩
    replace hs1 := below_step hs1 hb5
    replace hl3 := hl3.below hb5
    clear hl2 ho hb5 hr
    go_wp2_with fail
    refine (hM1 _ hs1).mono ?_
    rintro e w6 ⟨rfl, hb6⟩
    replace hs1 := below_step hs1 hb6
    replace hl3 := hl3.below hb6
    clear hM1 hb6
    cases m1 with
    | false =>
      go_wp2
      go_ret
      exact ⟨rfl, hs1⟩
    | true =>
      have hxb := HB.out rfl
      subst xb
      obtain ⟨r, hr⟩ : ∃ r, w6.heap.size = r := ⟨_, rfl⟩
      have ho : TokSl (w6.alloc (.cells #[.int .i64 8, .string ⟨#[]⟩, .int .i64 0, .int .i64 1, .string S, .int .i64 1, .int .i64 9, .string ⟨#[]⟩, .int .i64 (1 + (S.size : Int))] 33)) (.slice (some ⟨w6.heap.size, 0, none⟩) 3 3) [⟨8, [], 0⟩, ⟨1, S.data.toList, 1⟩, ⟨9, [], 1 + S.size⟩] :=
        row_tok (ts := [⟨8, [], 0⟩, ⟨1, S.data.toList, 1⟩, ⟨9, [], 1 + S.size⟩]) (World.alloc_heap_new _ _) (by simp [tkCells]) 3
      have ha := (Below.refl w6.heap.size w6).alloc (Nat.le_refl _) (.cells #[.int .i64 8, .string ⟨#[]⟩, .int .i64 0, .int .i64 1, .string S, .int .i64 1, .int .i64 9, .string ⟨#[]⟩, .int .i64 (1 + (S.size : Int))] 33)
      replace hl3 := hl3.below ha
      replace hs1 := below_step hs1 ha
      rw [hr] at ho
      clear ha
      go_wp2_with fail
      refine (tSame_any _ _ _ _ _ hl3 ho (by simp) (by simp)).mono ?_
      rw [show decide (([⟨8, [], 0⟩, ⟨1, S.data.toList, 1⟩, ⟨9, [], 1 + S.size⟩] : List Tk) = [⟨8, [], 0⟩, ⟨1, S.data.toList, 1⟩, ⟨9, [], 1 + S.size⟩]) = true from decide_eq_true rfl]
      rintro e w7 ⟨rfl, hb7⟩
      go_wp2
      go_ret
      exact ⟨rfl, below_step hs1 hb7⟩
end Go.Proofs.YtghelkkndkbejaaGreatDoor
