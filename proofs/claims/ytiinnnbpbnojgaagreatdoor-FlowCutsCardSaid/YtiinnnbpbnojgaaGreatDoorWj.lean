import Derived.Test.YtiinnnbpbnojgaaGreatDoorWg
import Derived.Test.YtiinnnbpbnojgaaGreatDoorMaps
import Derived.Lib.QuietBelow
namespace Go.Proofs.YtiinnnbpbnojgaaGreatDoor
open Go Go.RowKit Go.Lib

/-- What a word's value is, as the program has it. -/
def halfV : Value := .iface 248 (.float .f64 4602678819172646912)
def wordsL : List (ByteArray × Value) := [(⟨#[]⟩, .nilIface), (⟨#[110, 117, 108, 108]⟩, .nilIface), (⟨#[126]⟩, .nilIface), (⟨#[116, 114, 117, 101]⟩, .iface 4 (.bool true)), (⟨#[102, 97, 108, 115, 101]⟩, .iface 4 (.bool false)), (⟨#[46, 105, 110, 102]⟩, halfV), (⟨#[43, 46, 105, 110, 102]⟩, halfV), (⟨#[45, 46, 105, 110, 102]⟩, halfV), (⟨#[46, 110, 97, 110]⟩, halfV)]

theorem run_word (w : World) (l : List (ByteArray × Value)) (a : ByteArray) (v : Value) (h : assoc a l = none) :
    (Instr.mapUpdate 250 (.map (some w.heap.size)) (.string a) v).run Tryz.prog (w.alloc (mapObj Value.string l)) = .ok () (w.alloc (mapObj Value.string (l ++ [(a, v)]))) := by
  have := run_put_list (P := Tryz.prog) (enc := Value.string) sameS isKeyS (t := 250) (k := 9) (e := 20) (w := w.alloc (mapObj Value.string l)) (l := l) Tryz.underlying250 Tryz.underlying9 (World.alloc_heap_new w _) a v h
  rw [putObj_new] at this
  exact this

/-- The map of words when k of them are laid. -/
def wordsObj (k : Nat) : Obj := mapObj Value.string (wordsL.take k)
theorem run_word_at (w : World) (k : Nat) (a : ByteArray) (v : Value) (h : assoc a (wordsL.take k) = none) (hk : wordsL.take (k + 1) = wordsL.take k ++ [(a, v)]) :
    (Instr.mapUpdate 250 (.map (some w.heap.size)) (.string a) v).run Tryz.prog (w.alloc (wordsObj k)) = .ok () (w.alloc (wordsObj (k + 1))) := by
  unfold wordsObj
  rw [hk]
  exact run_word w _ a v h

set_option maxRecDepth 100000 in
theorem words_any (w : World) :
    Calls Tryz.prog 144 #[] w fun e w' => e = .returned (.map (some w.heap.size)) ∧ w' = w.alloc (wordsObj 9) := by
  have hmm := @run_makeMap Tryz.prog
  have h0 : (Instr.mapUpdate 250 (.map (some w.heap.size)) (.string ⟨#[]⟩) .nilIface).run Tryz.prog (w.alloc (.map #[] 0)) = .ok () (w.alloc (wordsObj 1)) := run_word_at w 0 ⟨#[]⟩ .nilIface rfl rfl
  have h1 : (Instr.mapUpdate 250 (.map (some w.heap.size)) (.string ⟨#[110, 117, 108, 108]⟩) .nilIface).run Tryz.prog (w.alloc (wordsObj 1)) = .ok () (w.alloc (wordsObj 2)) := run_word_at w 1 ⟨#[110, 117, 108, 108]⟩ .nilIface (by decide +kernel) rfl
  have h2 : (Instr.mapUpdate 250 (.map (some w.heap.size)) (.string ⟨#[126]⟩) .nilIface).run Tryz.prog (w.alloc (wordsObj 2)) = .ok () (w.alloc (wordsObj 3)) := run_word_at w 2 ⟨#[126]⟩ .nilIface (by decide +kernel) rfl
  have h3 : (Instr.mapUpdate 250 (.map (some w.heap.size)) (.string ⟨#[116, 114, 117, 101]⟩) (.iface 4 (.bool true))).run Tryz.prog (w.alloc (wordsObj 3)) = .ok () (w.alloc (wordsObj 4)) := run_word_at w 3 ⟨#[116, 114, 117, 101]⟩ (.iface 4 (.bool true)) (by decide +kernel) rfl
  have h4 : (Instr.mapUpdate 250 (.map (some w.heap.size)) (.string ⟨#[102, 97, 108, 115, 101]⟩) (.iface 4 (.bool false))).run Tryz.prog (w.alloc (wordsObj 4)) = .ok () (w.alloc (wordsObj 5)) := run_word_at w 4 ⟨#[102, 97, 108, 115, 101]⟩ (.iface 4 (.bool false)) (by decide +kernel) rfl
  have h5 : (Instr.mapUpdate 250 (.map (some w.heap.size)) (.string ⟨#[46, 105, 110, 102]⟩) (.iface 248 (.float .f64 4602678819172646912))).run Tryz.prog (w.alloc (wordsObj 5)) = .ok () (w.alloc (wordsObj 6)) := run_word_at w 5 ⟨#[46, 105, 110, 102]⟩ (.iface 248 (.float .f64 4602678819172646912)) (by decide +kernel) rfl
  have h6 : (Instr.mapUpdate 250 (.map (some w.heap.size)) (.string ⟨#[43, 46, 105, 110, 102]⟩) (.iface 248 (.float .f64 4602678819172646912))).run Tryz.prog (w.alloc (wordsObj 6)) = .ok () (w.alloc (wordsObj 7)) := run_word_at w 6 ⟨#[43, 46, 105, 110, 102]⟩ (.iface 248 (.float .f64 4602678819172646912)) (by decide +kernel) rfl
  have h7 : (Instr.mapUpdate 250 (.map (some w.heap.size)) (.string ⟨#[45, 46, 105, 110, 102]⟩) (.iface 248 (.float .f64 4602678819172646912))).run Tryz.prog (w.alloc (wordsObj 7)) = .ok () (w.alloc (wordsObj 8)) := run_word_at w 7 ⟨#[45, 46, 105, 110, 102]⟩ (.iface 248 (.float .f64 4602678819172646912)) (by decide +kernel) rfl
  have h8 : (Instr.mapUpdate 250 (.map (some w.heap.size)) (.string ⟨#[46, 110, 97, 110]⟩) (.iface 248 (.float .f64 4602678819172646912))).run Tryz.prog (w.alloc (wordsObj 8)) = .ok () (w.alloc (wordsObj 9)) := run_word_at w 8 ⟨#[46, 110, 97, 110]⟩ (.iface 248 (.float .f64 4602678819172646912)) (by decide +kernel) rfl
  go_enter Tryz.func144, Tryz.ntmps144
  go_wp2
  go_ret
  exact ⟨rfl, rfl⟩
end Go.Proofs.YtiinnnbpbnojgaaGreatDoor

namespace Go.Proofs.YtiinnnbpbnojgaaGreatDoor
open Go Go.RowKit Go.Lib

set_option maxRecDepth 100000 in
set_option maxHeartbeats 400000 in
theorem isOther_any (r : Nat) (w : World) :
    Calls Tryz.prog 189 #[.int .i32 r] w fun e w' => e = .returned (.bool (otherR r)) ∧ Below w.heap.size w w' := by
  by_cases h1 : (48 : Int) ≤ r ∧ (r : Int) ≤ 57
  · obtain ⟨h1, h2⟩ := h1
    have h1' : ¬ (r : Int) < 48 := by omega
    have h2' : ¬ 57 < (r : Int) := by omega
    go_enter Tryz.func189, Tryz.ntmps189
    go_wp2
    go_ret
    exact ⟨by rw [show otherR r = false from (by unfold otherR; rw [decide_eq_true (show 48 ≤ r by omega), decide_eq_true (show r ≤ 57 by omega)]; rfl)]; rfl, Below.refl _ _⟩
  · have H1 := hid h1
    by_cases hlo : (r : Int) < 48
    · clear h1
      go_enter Tryz.func189, Tryz.ntmps189
      go_wp2_with fail
      refine (isOne_new r [46, 101, 69, 43, 45, 95] _ _ _ rfl (by decide)).mono ?_
      rintro e w1 ⟨rfl, hb1⟩
      go_wp2
      go_ret
      exact ⟨by rw [show otherR r = !(memB [46, 101, 69, 43, 45, 95] r) from (by unfold otherR; rw [decide_eq_false (show ¬ 48 ≤ r by omega)]; simp)]; rfl, hb1⟩
    · have hhi : 57 < (r : Int) := by omega
      clear h1
      go_enter Tryz.func189, Tryz.ntmps189
      go_wp2_with fail
      refine (isOne_new r [46, 101, 69, 43, 45, 95] _ _ _ rfl (by decide)).mono ?_
      rintro e w1 ⟨rfl, hb1⟩
      go_wp2
      go_ret
      exact ⟨by rw [show otherR r = !(memB [46, 101, 69, 43, 45, 95] r) from (by unfold otherR; rw [decide_eq_false (show ¬ r ≤ 57 by omega)]; simp)]; rfl, hb1⟩

theorem isOther_grows (w : World) : PredGrows Tryz.prog 189 #[] otherR w := fun W x _ _ => by
  refine (isOther_any x W).mono ?_
  rintro e w' ⟨rfl, hb⟩
  exact ⟨rfl, hb⟩

set_option maxRecDepth 100000 in
set_option maxHeartbeats 400000 in
theorem isNumber_any (s : ByteArray) (w : World) :
    Calls Tryz.prog 145 #[.string s] w fun e w' => e = .returned (.bool (numP s.data.toList)) ∧ Below w.heap.size w w' := by
  go_enter Tryz.func145, Tryz.ntmps145
  go_wp2_with fail
  refine (Tryz.strings_TrimPrefix s ⟨#[43]⟩ _).mono ?_
  rintro e w1 ⟨rfl, hw1⟩
  subst hw1
  go_wp2_with fail
  refine (Tryz.strings_TrimPrefix ⟨(Lib.trimPrefix s.data.toList [43]).toArray⟩ ⟨#[45]⟩ _).mono ?_
  rintro e w2 ⟨rfl, hw2⟩
  subst hw2
  go_wp2_with fail
  refine (Tryz.strings_HasPrefix s ⟨#[43, 45]⟩ _).mono ?_
  rintro e w3 ⟨rfl, hw3⟩
  subst hw3
  cases hp : Lib.hasPrefix s.data.toList [43, 45] with
  | true =>
    have HP := hid hp; clear hp
    go_wp2
    go_ret
    exact ⟨by rw [show numP s.data.toList = false from (by unfold numP; rw [HP.out]; rfl)]; rfl, Below.refl _ _⟩
  | false =>
    have HP := hid hp; clear hp
    go_wp2_with fail
    refine (Tryz.strings_TrimPrefix ⟨(Lib.trimPrefix (Lib.trimPrefix s.data.toList [43]) [45]).toArray⟩ ⟨#[46]⟩ _).mono ?_
    rintro e w4 ⟨rfl, hw4⟩
    subst hw4
    obtain ⟨T, hTT⟩ : ∃ T : ByteArray, (⟨(numTail s.data.toList).toArray⟩ : ByteArray) = T := ⟨_, rfl⟩
    have hTT' : (⟨(Lib.trimPrefix (Lib.trimPrefix (Lib.trimPrefix s.data.toList [43]) [45]) [46]).toArray⟩ : ByteArray) = T := hTT
    rw [show (⟨(Lib.trimPrefix (⟨(Lib.trimPrefix (Lib.trimPrefix s.data.toList [43]) [45]).toArray⟩ : ByteArray).data.toList (⟨#[46]⟩ : ByteArray).data.toList).toArray⟩ : ByteArray) = T from hTT']
    clear hTT'
    have hTl : numTail s.data.toList = T.data.toList := by rw [← hTT]
    have HTT := hid hTT; clear hTT
    have HT := hid hTl; clear hTl
    by_cases hT0 : 0 < T.size
    · have hTe := isEmpty_false hT0
      have hTi : (0 : Int) < (T.size : Int) := by omega
      have hl := head_rest T hT0
      obtain ⟨c, hc⟩ : ∃ c, T[0]'hT0 = c := ⟨_, rfl⟩
      rw [hc] at hl
      have HL := hid hl; clear hl
      have hemp : T.data.toList.isEmpty = false := by rw [HL.out]; rfl
      have HE := hid hemp; clear hemp
      have hhd : T.data.toList.headD 0 = c := by rw [HL.out]; rfl
      have HH := hid hhd; clear hhd
      by_cases hd : (48 : Int) ≤ c.toNat ∧ (c.toNat : Int) ≤ 57
      · obtain ⟨hd1, hd2⟩ := hd
        have hdig : isDigB c = true := by unfold isDigB; simp; omega
        have HD := hid hdig; clear hdig
        go_wp2_with fail
        refine (Tryz.strings_ContainsFunc_grows 189 #[] (enters_of Tryz.func189 (by kernel_rfl) rfl) otherR T _ (isOther_grows _)).mono ?_
        rintro e w5 ⟨rfl, hb5⟩
        go_wp2
        go_ret
        exact ⟨by rw [show numP s.data.toList = !(decide (0 ≤ Lib.idxFunc otherR true T)) from (by unfold numP; rw [HP.out, HTT.out, HT.out, HE.out, HH.out, HD.out]; rfl)]; rfl, hb5⟩
      · have hdig : isDigB c = false := by unfold isDigB; simp; omega
        have HD := hid hdig; clear hdig
        have hfin : numP s.data.toList = false := by unfold numP; rw [HP.out, HT.out, HE.out, HH.out, HD.out]; rfl
        have HF := hid hfin; clear hfin
        by_cases hd1 : (48 : Int) ≤ c.toNat
        · have hd2 : (57 : Int) < c.toNat := by omega
          clear hd
          go_wp2
          go_ret
          exact ⟨by rw [HF.out]; rfl, Below.refl _ _⟩
        · clear hd
          go_wp2
          go_ret
          exact ⟨by rw [HF.out]; rfl, Below.refl _ _⟩
    · have hTe := isEmpty_true hT0
      have hemp : T.data.toList.isEmpty = true := by rw [← Lib.toList_data]; exact hTe
      have hfin : numP s.data.toList = false := by unfold numP; rw [HP.out, HT.out, hemp]; rfl
      have HF := hid hfin; clear hfin hemp
      go_wp2
      go_ret
      exact ⟨by rw [HF.out]; rfl, Below.refl _ _⟩
end Go.Proofs.YtiinnnbpbnojgaaGreatDoor

namespace Go.Proofs.YtiinnnbpbnojgaaGreatDoor
open Go Go.RowKit Go.Lib

theorem below_growN (w : World) (k : Nat) (os : Array Obj) : Below w.heap.size w (Go.Sort.grow (w.drewN k) os) :=
  ⟨rfl, rfl, rfl, by show w.heap.size ≤ (w.heap ++ os).size; simp, fun i hi => by show (w.heap ++ os)[i]? = _; rw [Array.getElem?_append_left hi]⟩

theorem Itoa_any (n : Int) (w : World) (h0 : -9223372036854775808 ≤ n) (h1 : n ≤ 9223372036854775807) (hT : Tabs w) :
    Calls Tryz.prog 147 #[.int .i64 n] w fun e w' => e = .returned (.string ⟨(Lib.itoa n).toArray⟩) ∧ Below w.heap.size w w' := by
  refine (Tryz.strconv_Itoa n h0 h1 w hT.pow).mono ?_
  rintro e w' ⟨rfl, k, os, rfl⟩
  exact ⟨rfl, below_growN w k os⟩

theorem Atoi_ok (s : ByteArray) (v : Int) (w : World) (hs : s.size ≤ 1000000) (h : Lib.atoiAll s.data.toList = .ok v) :
    Calls Tryz.prog 146 #[.string s] w fun e w' => e = .returned (.tuple #[.int .i64 v, .nilIface]) ∧ Below w.heap.size w w' := by
  refine (Tryz.strconv_Atoi_ok s (by omega) v h w).mono ?_
  rintro e w' ⟨rfl, rfl | ⟨t, rfl⟩⟩
  · exact ⟨rfl, Below.refl _ _⟩
  · exact ⟨rfl, Lib.bytesWorld_below _ _ _⟩
theorem Atoi_bad (s : ByteArray) (w : World) (hs : s.size ≤ 1000000) (hT : Tabs w) (h : ∀ v, Lib.atoiAll s.data.toList ≠ .ok v) :
    Calls Tryz.prog 146 #[.string s] w fun e w' => (∃ v N, e = .returned (.tuple #[.int .i64 v, .iface 318 (.pointer (some ⟨N, 0, none⟩))])) ∧ Below w.heap.size w w' := by
  cases ha : Lib.atoiAll s.data.toList with
  | ok v => exact absurd ha (h v)
  | range =>
    obtain ⟨te, pe, hc⟩ := hT.rng
    refine (Tryz.strconv_Atoi_range s (by omega) ha _ w hc (.inr ⟨te, pe, rfl⟩)).mono ?_
    rintro e w' ⟨N, rfl, _, _, hb⟩
    exact ⟨⟨_, _, rfl⟩, hb⟩
  | _ =>
    obtain ⟨te, pe, hc⟩ := hT.syn
    refine (Tryz.strconv_Atoi_syntax s (by omega) h (fun h2 => by rw [ha] at h2; cases h2) _ w hc (.inr ⟨te, pe, rfl⟩)).mono ?_
    rintro e w' ⟨N, rfl, _, _, hb⟩
    exact ⟨⟨_, _, rfl⟩, hb⟩

/-- A text's value, as the program has it. -/
def numV (l : List UInt8) : Value := match Lib.atoiAll l with
  | .ok n => if Lib.itoa n = l ∧ -999999999999999 ≤ n ∧ n ≤ 999999999999999 then .iface 3 (.int .i64 n) else halfV
  | _ => halfV
def valueV (s : ByteArray) : Value := match assoc s wordsL with
  | some v => v
  | none => if numP s.data.toList then numV s.data.toList else .iface 9 (.string s)

theorem look_words (s : ByteArray) (w : World) (b : Nat) (hb : w.heap[b]? = some (wordsObj 9)) :
    (Instr.lookup 250 (.map (some b)) (.string s) true).run Tryz.prog w = .ok (.tuple #[(assoc s wordsL).getD .nilIface, .bool (assoc s wordsL).isSome]) w :=
  run_lookup_list (P := Tryz.prog) (enc := Value.string) sameS isKeyS (k := 9) (e := 20) (l := wordsL) (z := .nilIface) Tryz.underlying250 Tryz.underlying9 (by kernel_rfl) hb s true

set_option maxRecDepth 100000 in
set_option maxHeartbeats 400000 in
theorem value_any (s : ByteArray) (w : World) (hs : s.size ≤ 1000000) (hT : Tabs w) :
    Calls Tryz.prog 97 #[.string s] w fun e w' => e = .returned (valueV s) ∧ Below w.heap.size w w' := by
  go_enter Tryz.func97, Tryz.ntmps97
  go_wp2_with fail
  refine (words_any _).mono ?_
  rintro e w1 ⟨rfl, hw1⟩
  have hb1 : Below w.heap.size w w1 := by rw [hw1]; exact (Below.refl _ _).alloc (Nat.le_refl _) _
  have hlk := look_words s w1 w.heap.size (by rw [hw1]; exact World.alloc_heap_new _ _)
  have hT1 := hT.below hb1
  clear hw1
  cases ha : assoc s wordsL with
  | some v =>
    rw [ha] at hlk
    have HA := hid ha; clear ha
    simp only [Option.getD_some, Option.isSome_some] at hlk
    go_wp2
    go_ret
    exact ⟨by rw [show valueV s = v from (by unfold valueV; rw [HA.out])]; rfl, hb1⟩
  | none =>
    rw [ha] at hlk
    have HA := hid ha; clear ha
    simp only [Option.getD_none, Option.isSome_none] at hlk
    go_wp2_with fail
    refine (isNumber_any s _).mono ?_
    rintro e w2 ⟨rfl, hb2⟩
    have hb02 : Below w.heap.size w w2 := hb1.trans (hb2.mono hb1.size)
    have hT2 := hT1.below hb2
    cases hn : numP s.data.toList with
    | false =>
      have HN := hid hn; clear hn
      go_wp2
      go_ret
      exact ⟨by rw [show valueV s = .iface 9 (.string s) from (by unfold valueV; rw [HA.out, HN.out]; rfl)]; rfl, hb02⟩
    | true =>
      have HN := hid hn; clear hn
      have hval : valueV s = numV s.data.toList := by unfold valueV; rw [HA.out, HN.out]; rfl
      have HV := hid hval; clear hval
      go_wp2_with fail
      cases hat : Lib.atoiAll s.data.toList with
      | ok n =>
        have hb := atoiAll_bd hat
        have HT := hid hat
        refine (Atoi_ok s n _ hs hat).mono ?_
        clear hat
        rintro e w3 ⟨rfl, hb3⟩
        have hb03 : Below w.heap.size w w3 := hb02.trans (hb3.mono hb02.size)
        have hT3 := hT2.below hb3
        go_wp2_with fail
        refine (Itoa_any n _ hb.1 hb.2 hT3).mono ?_
        rintro e w4 ⟨rfl, hb4⟩
        have hb04 : Below w.heap.size w w4 := hb03.trans (hb4.mono hb03.size)
        by_cases hi : Lib.itoa n = s.data.toList
        · have hii : (!Lib.itoa n == s.toList) = false := by rw [Lib.toList_data, hi]; simp
          have HI := hid hi; clear hi
          by_cases hlo : n < -999999999999999
          · have hfin : numV s.data.toList = halfV := by unfold numV; rw [HT.out]; simp only []; rw [if_neg (by omega)]
            have HF := hid hfin; clear hfin
            go_wp2
            go_ret
            exact ⟨by rw [HV.out, HF.out]; rfl, hb04⟩
          · by_cases hhi : 999999999999999 < n
            · have hfin : numV s.data.toList = halfV := by unfold numV; rw [HT.out]; simp only []; rw [if_neg (by omega)]
              have HF := hid hfin; clear hfin
              go_wp2
              go_ret
              exact ⟨by rw [HV.out, HF.out]; rfl, hb04⟩
            · have hfin : numV s.data.toList = .iface 3 (.int .i64 n) := by unfold numV; rw [HT.out]; simp only []; rw [if_pos ⟨HI.out, by omega, by omega⟩]
              have HF := hid hfin; clear hfin
              go_wp2
              go_ret
              exact ⟨by rw [HV.out, HF.out]; rfl, hb04⟩
        · have hii : (!Lib.itoa n == s.toList) = true := by rw [Lib.toList_data]; simpa using hi
          have hfin : numV s.data.toList = halfV := by unfold numV; rw [HT.out]; simp only []; rw [if_neg (fun h => hi h.1)]
          have HF := hid hfin; clear hfin hi
          go_wp2
          go_ret
          exact ⟨by rw [HV.out, HF.out]; rfl, hb04⟩
      | _ =>
        have hbad : ∀ v, Lib.atoiAll s.data.toList ≠ .ok v := by intro v hv; rw [hat] at hv; cases hv
        have hfin : numV s.data.toList = halfV := by unfold numV; rw [hat]
        have HF := hid hfin; clear hfin
        refine (Atoi_bad s _ hs hT2 hbad).mono ?_
        clear hat hbad
        rintro e w3 ⟨⟨v, N, rfl⟩, hb3⟩
        have hb03 : Below w.heap.size w w3 := hb02.trans (hb3.mono hb02.size)
        go_wp2
        go_ret
        exact ⟨by rw [HV.out, HF.out]; rfl, hb03⟩

/-- A scalar's value. -/
structure Sc where
  kind : Int
  num : Int
  str : ByteArray
def scV (x : Sc) : Value := .agg #[.int .i64 x.kind, .int .i64 x.num, .string x.str]
def sc0 : Sc := ⟨0, 0, ⟨#[]⟩⟩
def scalarP : Value → Sc × Int
  | .iface _ (.float _ _) => (sc0, 50)
  | .iface _ (.bool b) => (⟨1, if b then 1 else 0, ⟨#[]⟩⟩, 0)
  | .iface _ (.int _ n) => (⟨2, n, ⟨#[]⟩⟩, 0)
  | .iface _ (.string s) => (⟨3, 0, s⟩, 0)
  | _ => (sc0, 0)
/-! A value is looked at: what each assertion says. -/
theorem as_nil_F (w : World) : (Instr.typeAssert .nilIface 20 248 true).run Tryz.prog w = .ok (.tuple #[.float .f64 0, .bool false]) w := by kernel_rfl
theorem as_F_F (v : Value) (w : World) : (Instr.typeAssert (.iface 248 v) 20 248 true).run Tryz.prog w = .ok (.tuple #[v, .bool true]) w := by kernel_rfl
theorem as_B_F (v : Value) (w : World) : (Instr.typeAssert (.iface 4 v) 20 248 true).run Tryz.prog w = .ok (.tuple #[.float .f64 0, .bool false]) w := by kernel_rfl
theorem as_I_F (v : Value) (w : World) : (Instr.typeAssert (.iface 3 v) 20 248 true).run Tryz.prog w = .ok (.tuple #[.float .f64 0, .bool false]) w := by kernel_rfl
theorem as_S_F (v : Value) (w : World) : (Instr.typeAssert (.iface 9 v) 20 248 true).run Tryz.prog w = .ok (.tuple #[.float .f64 0, .bool false]) w := by kernel_rfl
theorem as_nil_B (w : World) : (Instr.typeAssert .nilIface 20 4 true).run Tryz.prog w = .ok (.tuple #[.bool false, .bool false]) w := by kernel_rfl
theorem as_F_B (v : Value) (w : World) : (Instr.typeAssert (.iface 248 v) 20 4 true).run Tryz.prog w = .ok (.tuple #[.bool false, .bool false]) w := by kernel_rfl
theorem as_B_B (v : Value) (w : World) : (Instr.typeAssert (.iface 4 v) 20 4 true).run Tryz.prog w = .ok (.tuple #[v, .bool true]) w := by kernel_rfl
theorem as_I_B (v : Value) (w : World) : (Instr.typeAssert (.iface 3 v) 20 4 true).run Tryz.prog w = .ok (.tuple #[.bool false, .bool false]) w := by kernel_rfl
theorem as_S_B (v : Value) (w : World) : (Instr.typeAssert (.iface 9 v) 20 4 true).run Tryz.prog w = .ok (.tuple #[.bool false, .bool false]) w := by kernel_rfl
theorem as_nil_I (w : World) : (Instr.typeAssert .nilIface 20 3 true).run Tryz.prog w = .ok (.tuple #[.int .i64 0, .bool false]) w := by kernel_rfl
theorem as_F_I (v : Value) (w : World) : (Instr.typeAssert (.iface 248 v) 20 3 true).run Tryz.prog w = .ok (.tuple #[.int .i64 0, .bool false]) w := by kernel_rfl
theorem as_B_I (v : Value) (w : World) : (Instr.typeAssert (.iface 4 v) 20 3 true).run Tryz.prog w = .ok (.tuple #[.int .i64 0, .bool false]) w := by kernel_rfl
theorem as_I_I (v : Value) (w : World) : (Instr.typeAssert (.iface 3 v) 20 3 true).run Tryz.prog w = .ok (.tuple #[v, .bool true]) w := by kernel_rfl
theorem as_S_I (v : Value) (w : World) : (Instr.typeAssert (.iface 9 v) 20 3 true).run Tryz.prog w = .ok (.tuple #[.int .i64 0, .bool false]) w := by kernel_rfl
theorem as_nil_S (w : World) : (Instr.typeAssert .nilIface 20 9 true).run Tryz.prog w = .ok (.tuple #[.string ⟨#[]⟩, .bool false]) w := by kernel_rfl
theorem as_F_S (v : Value) (w : World) : (Instr.typeAssert (.iface 248 v) 20 9 true).run Tryz.prog w = .ok (.tuple #[.string ⟨#[]⟩, .bool false]) w := by kernel_rfl
theorem as_B_S (v : Value) (w : World) : (Instr.typeAssert (.iface 4 v) 20 9 true).run Tryz.prog w = .ok (.tuple #[.string ⟨#[]⟩, .bool false]) w := by kernel_rfl
theorem as_I_S (v : Value) (w : World) : (Instr.typeAssert (.iface 3 v) 20 9 true).run Tryz.prog w = .ok (.tuple #[.string ⟨#[]⟩, .bool false]) w := by kernel_rfl
theorem as_S_S (v : Value) (w : World) : (Instr.typeAssert (.iface 9 v) 20 9 true).run Tryz.prog w = .ok (.tuple #[v, .bool true]) w := by kernel_rfl
attribute [local go_sem] as_nil_F as_nil_B as_nil_I as_nil_S as_F_F as_B_F as_I_F as_S_F as_F_B as_B_B as_I_B as_S_B as_F_I as_B_I as_I_I as_S_I as_F_S as_B_S as_I_S as_S_S
/-- The values that a text may have. -/
def IsVal (v : Value) : Prop := v = .nilIface ∨ v = halfV ∨ (∃ b, v = .iface 4 (.bool b)) ∨ (∃ n, v = .iface 3 (.int .i64 n)) ∨ ∃ s, v = .iface 9 (.string s)

set_option maxRecDepth 100000 in
set_option maxHeartbeats 400000 in
theorem scalar_any (v : Value) (w : World) (hv : IsVal v) :
    Calls Tryz.prog 96 #[v] w fun e w' => e = .returned (.tuple #[scV (scalarP v).1, .int .i64 (scalarP v).2]) ∧ Below w.heap.size w w' := by
  rcases hv with rfl | rfl | ⟨b, rfl⟩ | ⟨n, rfl⟩ | ⟨s, rfl⟩
  · go_enter Tryz.func96, Tryz.ntmps96
    go_wp2
    exact bodyPost_ret (v := .tuple #[.agg #[.int .i64 0, .int .i64 0, .string ⟨#[]⟩], .int .i64 0]) (by simp [results, Tryz.results96, go_sem]) rfl ⟨rfl, by repeat (first | exact Below.refl _ _ | refine Below.alloc ?_ (by simp) _ | refine Below.setCell ?_ (by simp) _)⟩
  · unfold halfV
    go_enter Tryz.func96, Tryz.ntmps96
    go_wp2
    exact bodyPost_ret (v := .tuple #[.agg #[.int .i64 0, .int .i64 0, .string ⟨#[]⟩], .int .i64 50]) (by simp [results, Tryz.results96, go_sem]) rfl ⟨rfl, by repeat (first | exact Below.refl _ _ | refine Below.alloc ?_ (by simp) _ | refine Below.setCell ?_ (by simp) _)⟩
  · cases b
    · go_enter Tryz.func96, Tryz.ntmps96
      go_wp2
      exact bodyPost_ret (v := .tuple #[.agg #[.int .i64 1, .int .i64 0, .string ⟨#[]⟩], .int .i64 0]) (by simp [results, Tryz.results96, go_sem]) rfl ⟨rfl, by repeat (first | exact Below.refl _ _ | refine Below.alloc ?_ (by simp) _ | refine Below.setCell ?_ (by simp) _)⟩
    · go_enter Tryz.func96, Tryz.ntmps96
      go_wp2
      exact bodyPost_ret (v := .tuple #[.agg #[.int .i64 1, .int .i64 1, .string ⟨#[]⟩], .int .i64 0]) (by simp [results, Tryz.results96, go_sem]) rfl ⟨rfl, by repeat (first | exact Below.refl _ _ | refine Below.alloc ?_ (by simp) _ | refine Below.setCell ?_ (by simp) _)⟩
  · go_enter Tryz.func96, Tryz.ntmps96
    go_wp2
    exact bodyPost_ret (v := .tuple #[.agg #[.int .i64 2, .int .i64 n, .string ⟨#[]⟩], .int .i64 0]) (by simp [results, Tryz.results96, go_sem]) rfl ⟨rfl, by repeat (first | exact Below.refl _ _ | refine Below.alloc ?_ (by simp) _ | refine Below.setCell ?_ (by simp) _)⟩
  · go_enter Tryz.func96, Tryz.ntmps96
    go_wp2
    exact bodyPost_ret (v := .tuple #[.agg #[.int .i64 3, .int .i64 0, .string s], .int .i64 0]) (by simp [results, Tryz.results96, go_sem]) rfl ⟨rfl, by repeat (first | exact Below.refl _ _ | refine Below.alloc ?_ (by simp) _ | refine Below.setCell ?_ (by simp) _)⟩
end Go.Proofs.YtiinnnbpbnojgaaGreatDoor
