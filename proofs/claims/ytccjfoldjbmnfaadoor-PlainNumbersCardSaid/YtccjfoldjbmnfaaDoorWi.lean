import Derived.Test.YtccjfoldjbmnfaaDoorWh
namespace Go.Proofs.YtccjfoldjbmnfaaDoor
open Go Go.RowKit Go.Lib

set_option maxRecDepth 100000 in
set_option maxHeartbeats 400000 in
theorem isOther_any (r : Nat) (w : World) :
    Calls Tryd.prog 44 #[.int .i32 r] w fun e w' => e = .returned (.bool (otherR r)) ∧ Below w.heap.size w w' := by
  by_cases h1 : (48 : Int) ≤ r ∧ (r : Int) ≤ 57
  · obtain ⟨h1, h2⟩ := h1
    have h1' : ¬ (r : Int) < 48 := by omega
    have h2' : ¬ 57 < (r : Int) := by omega
    go_enter Tryd.func44, Tryd.ntmps44
    go_wp2
    go_ret
    exact ⟨by rw [show otherR r = false from (by unfold otherR; rw [decide_eq_true (show 48 ≤ r by omega), decide_eq_true (show r ≤ 57 by omega)]; rfl)]; rfl, Below.refl _ _⟩
  · have H1 := hid h1
    by_cases hlo : (r : Int) < 48
    · clear h1
      go_enter Tryd.func44, Tryd.ntmps44
      go_wp2_with fail
      refine (isOne_new r [46, 101, 69, 43, 45, 95] _ _ _ rfl (by decide)).mono ?_
      rintro e w1 ⟨rfl, hb1⟩
      go_wp2
      go_ret
      exact ⟨by rw [show otherR r = !(memB [46, 101, 69, 43, 45, 95] r) from (by unfold otherR; rw [decide_eq_false (show ¬ 48 ≤ r by omega)]; simp)]; rfl, hb1⟩
    · have hhi : 57 < (r : Int) := by omega
      clear h1
      go_enter Tryd.func44, Tryd.ntmps44
      go_wp2_with fail
      refine (isOne_new r [46, 101, 69, 43, 45, 95] _ _ _ rfl (by decide)).mono ?_
      rintro e w1 ⟨rfl, hb1⟩
      go_wp2
      go_ret
      exact ⟨by rw [show otherR r = !(memB [46, 101, 69, 43, 45, 95] r) from (by unfold otherR; rw [decide_eq_false (show ¬ r ≤ 57 by omega)]; simp)]; rfl, hb1⟩

theorem isOther_grows (w : World) : PredGrows Tryd.prog 44 #[] otherR w := fun W x _ _ => by
  refine (isOther_any x W).mono ?_
  rintro e w' ⟨rfl, hb⟩
  exact ⟨rfl, hb⟩

set_option maxRecDepth 100000 in
set_option maxHeartbeats 400000 in
theorem isNumber_any (s : ByteArray) (w : World) :
    Calls Tryd.prog 29 #[.string s] w fun e w' => e = .returned (.bool (numP s.data.toList)) ∧ Below w.heap.size w w' := by
  go_enter Tryd.func29, Tryd.ntmps29
  go_wp2_with fail
  refine (Tryd.strings_TrimPrefix s ⟨#[43]⟩ _).mono ?_
  rintro e w1 ⟨rfl, hw1⟩
  subst hw1
  go_wp2_with fail
  refine (Tryd.strings_TrimPrefix ⟨(Lib.trimPrefix s.data.toList [43]).toArray⟩ ⟨#[45]⟩ _).mono ?_
  rintro e w2 ⟨rfl, hw2⟩
  subst hw2
  go_wp2_with fail
  refine (Tryd.strings_HasPrefix s ⟨#[43, 45]⟩ _).mono ?_
  rintro e w3 ⟨rfl, hw3⟩
  subst hw3
  cases hp : Lib.hasPrefix s.data.toList [43, 45] with
  | true =>
    have HP := hid hp; clear hp
    go_wp2
    go_ret
    exact ⟨by rw [show numP s.data.toList = false from (by unfold numP; rw [HP.out]; rfl)]; rfl, Below.refl _ _⟩
  | false =>
    have HP := hid hp; clear hp
    go_wp2_with fail
    refine (Tryd.strings_TrimPrefix ⟨(Lib.trimPrefix (Lib.trimPrefix s.data.toList [43]) [45]).toArray⟩ ⟨#[46]⟩ _).mono ?_
    rintro e w4 ⟨rfl, hw4⟩
    subst hw4
    obtain ⟨T, hTT⟩ : ∃ T : ByteArray, (⟨(numTail s.data.toList).toArray⟩ : ByteArray) = T := ⟨_, rfl⟩
    have hTT' : (⟨(Lib.trimPrefix (Lib.trimPrefix (Lib.trimPrefix s.data.toList [43]) [45]) [46]).toArray⟩ : ByteArray) = T := hTT
    rw [show (⟨(Lib.trimPrefix (⟨(Lib.trimPrefix (Lib.trimPrefix s.data.toList [43]) [45]).toArray⟩ : ByteArray).data.toList (⟨#[46]⟩ : ByteArray).data.toList).toArray⟩ : ByteArray) = T from hTT']
    clear hTT'
    have hTl : numTail s.data.toList = T.data.toList := by rw [← hTT]
    have HTT := hid hTT; clear hTT
    have HT := hid hTl; clear hTl
    by_cases hT0 : 0 < T.size
    · have hTe := isEmpty_false hT0
      have hTi : (0 : Int) < (T.size : Int) := by omega
      have hl := head_rest T hT0
      obtain ⟨c, hc⟩ : ∃ c, T[0]'hT0 = c := ⟨_, rfl⟩
      rw [hc] at hl
      have HL := hid hl; clear hl
      have hemp : T.data.toList.isEmpty = false := by rw [HL.out]; rfl
      have HE := hid hemp; clear hemp
      have hhd : T.data.toList.headD 0 = c := by rw [HL.out]; rfl
      have HH := hid hhd; clear hhd
      by_cases hd : (48 : Int) ≤ c.toNat ∧ (c.toNat : Int) ≤ 57
      · obtain ⟨hd1, hd2⟩ := hd
        have hdig : isDigB c = true := by unfold isDigB; simp; omega
        have HD := hid hdig; clear hdig
        go_wp2_with fail
        refine (Tryd.strings_ContainsFunc_grows 44 #[] (enters_of Tryd.func44 (by kernel_rfl) rfl) otherR T _ (isOther_grows _)).mono ?_
        rintro e w5 ⟨rfl, hb5⟩
        go_wp2
        go_ret
        exact ⟨by rw [show numP s.data.toList = !(decide (0 ≤ Lib.idxFunc otherR true T)) from (by unfold numP; rw [HP.out, HTT.out, HT.out, HE.out, HH.out, HD.out]; rfl)]; rfl, hb5⟩
      · have hdig : isDigB c = false := by unfold isDigB; simp; omega
        have HD := hid hdig; clear hdig
        have hfin : numP s.data.toList = false := by unfold numP; rw [HP.out, HT.out, HE.out, HH.out, HD.out]; rfl
        have HF := hid hfin; clear hfin
        by_cases hd1 : (48 : Int) ≤ c.toNat
        · have hd2 : (57 : Int) < c.toNat := by omega
          clear hd
          go_wp2
          go_ret
          exact ⟨by rw [HF.out]; rfl, Below.refl _ _⟩
        · clear hd
          go_wp2
          go_ret
          exact ⟨by rw [HF.out]; rfl, Below.refl _ _⟩
    · have hTe := isEmpty_true hT0
      have hemp : T.data.toList.isEmpty = true := by rw [← Lib.toList_data]; exact hTe
      have hfin : numP s.data.toList = false := by unfold numP; rw [HP.out, HT.out, hemp]; rfl
      have HF := hid hfin; clear hfin hemp
      go_wp2
      go_ret
      exact ⟨by rw [HF.out]; rfl, Below.refl _ _⟩
end Go.Proofs.YtccjfoldjbmnfaaDoor
