import Derived.Test.YtkdhaipjfkalfaaGreatDoorRg
namespace Go.Proofs.YtkdhaipjfkalfaaGreatDoor
open Go Go.RowKit Go.Lib
set_option linter.unusedSimpArgs false

def wordR (l : List UInt8) : Option (Sc × Int) :=
  if l.isEmpty then some (sc0, 0)
  else if l == [110, 117, 108, 108] then some (sc0, 0)
  else if l == [126] then some (sc0, 0)
  else if l == [116, 114, 117, 101] then some (⟨1, 1, ⟨#[]⟩⟩, 0)
  else if l == [102, 97, 108, 115, 101] then some (⟨1, 0, ⟨#[]⟩⟩, 0)
  else if l == [46, 105, 110, 102] then some (sc0, 50)
  else if l == [43, 46, 105, 110, 102] then some (sc0, 50)
  else if l == [45, 46, 105, 110, 102] then some (sc0, 50)
  else if l == [46, 110, 97, 110] then some (sc0, 50)
  else none
def restR (s : ByteArray) : Sc × Int :=
  if !looksR s.data.toList then (⟨3, 0, s⟩, 0) else if !(numR s.data.toList).2 then (sc0, 50) else (⟨2, (numR s.data.toList).1, ⟨#[]⟩⟩, 0)
def resolveR (s : ByteArray) : Sc × Int :=
  if !s.data.toList.isEmpty && !mayR s.data.toList false then (sc0, 51) else (wordR s.data.toList).getD (restR s)
def readR (s : ByteArray) (flow : Bool) : Sc × Int := if !mayR s.data.toList flow then (sc0, 51) else resolveR s

set_option maxRecDepth 100000 in
set_option maxHeartbeats 2000000 in
theorem refResolve_any (s : ByteArray) (w : World) (hs : s.size ≤ 1000000) :
    Calls Tryz.prog 36 #[.string s] w fun e w' => e = .returned (.tuple #[scV (resolveR s).1, .int .i64 (resolveR s).2]) ∧ Below w.heap.size w w' := by
  by_cases h0 : 0 < s.size
  · have he := isEmpty_false h0
    have HE := hid (dlist_false h0)
    go_enter Tryz.func36, Tryz.ntmps36
    go_wp2_with fail
    refine (mayR_any s false _ hs).mono ?_
    rintro e w1 ⟨rfl, hb1⟩
    have hbw : Below w.heap.size w w1 := ((Below.refl _ w).alloc (Nat.le_refl _) _).trans (hb1.mono (by simp))
    have hk := heap_new _ _ hb1
    obtain ⟨c0, c1, c2, f0, f1, f2⟩ := blk3 hk
    clear hk
    cases hm : mayR s.data.toList false with
    | false =>
      have HM := hid hm; clear hm
      go_wp2
      refine bodyPost_ret (v := .tuple #[.agg #[.int .i64 0, .int .i64 (0), .string ⟨#[]⟩], .int .i64 51]) (by simp [results, Tryz.results36, go_sem, c0, c1, c2]) rfl ⟨?_, ?_⟩
      · rw [show resolveR s = (sc0, 51) from (by unfold resolveR; rw [HE.out, HM.out]; rfl)]; rfl
      · repeat (first | exact hbw | refine Below.setCell ?_ (by simp) _)
    | true =>
      have HR := hid (show resolveR s = (wordR s.data.toList).getD (restR s) by unfold resolveR; rw [HE.out, hm]; rfl)
      clear hm hb1
      cases hw0 : (s.toList == [110, 117, 108, 108]) with
      | true =>
        have HW0 := hid (show (s.data.toList == [110, 117, 108, 108]) = true by rw [← Lib.toList_data]; exact hw0)
        go_wp2
        refine bodyPost_ret (v := .tuple #[.agg #[.int .i64 0, .int .i64 (0), .string ⟨#[]⟩], .int .i64 0]) (by simp [results, Tryz.results36, go_sem, c0, c1, c2]) rfl ⟨?_, ?_⟩
        · rw [HR.out, show wordR s.data.toList = some (sc0, 0) from (by unfold wordR; rw [HE.out, HW0.out]; rfl)]; rfl
        · repeat (first | exact hbw | refine Below.setCell ?_ (by simp) _)
      | false =>
        have HW0 := hid (show (s.data.toList == [110, 117, 108, 108]) = false by rw [← Lib.toList_data]; exact hw0)
        cases hw1 : (s.toList == [126]) with
        | true =>
          have HW1 := hid (show (s.data.toList == [126]) = true by rw [← Lib.toList_data]; exact hw1)
          go_wp2
          refine bodyPost_ret (v := .tuple #[.agg #[.int .i64 0, .int .i64 (0), .string ⟨#[]⟩], .int .i64 0]) (by simp [results, Tryz.results36, go_sem, c0, c1, c2]) rfl ⟨?_, ?_⟩
          · rw [HR.out, show wordR s.data.toList = some (sc0, 0) from (by unfold wordR; rw [HE.out, HW0.out, HW1.out]; rfl)]; rfl
          · repeat (first | exact hbw | refine Below.setCell ?_ (by simp) _)
        | false =>
          have HW1 := hid (show (s.data.toList == [126]) = false by rw [← Lib.toList_data]; exact hw1)
          cases hw2 : (s.toList == [116, 114, 117, 101]) with
          | true =>
            have HW2 := hid (show (s.data.toList == [116, 114, 117, 101]) = true by rw [← Lib.toList_data]; exact hw2)
            go_wp2
            refine bodyPost_ret (v := .tuple #[.agg #[.int .i64 1, .int .i64 (1), .string ⟨#[]⟩], .int .i64 0]) (by simp [results, Tryz.results36, go_sem, c0, c1, c2]) rfl ⟨?_, ?_⟩
            · rw [HR.out, show wordR s.data.toList = some (⟨1, 1, ⟨#[]⟩⟩, 0) from (by unfold wordR; rw [HE.out, HW0.out, HW1.out, HW2.out]; rfl)]; rfl
            · repeat (first | exact hbw | refine Below.setCell ?_ (by simp) _)
          | false =>
            have HW2 := hid (show (s.data.toList == [116, 114, 117, 101]) = false by rw [← Lib.toList_data]; exact hw2)
            cases hw3 : (s.toList == [102, 97, 108, 115, 101]) with
            | true =>
              have HW3 := hid (show (s.data.toList == [102, 97, 108, 115, 101]) = true by rw [← Lib.toList_data]; exact hw3)
              go_wp2
              refine bodyPost_ret (v := .tuple #[.agg #[.int .i64 1, .int .i64 (0), .string ⟨#[]⟩], .int .i64 0]) (by simp [results, Tryz.results36, go_sem, c0, c1, c2]) rfl ⟨?_, ?_⟩
              · rw [HR.out, show wordR s.data.toList = some (⟨1, 0, ⟨#[]⟩⟩, 0) from (by unfold wordR; rw [HE.out, HW0.out, HW1.out, HW2.out, HW3.out]; rfl)]; rfl
              · repeat (first | exact hbw | refine Below.setCell ?_ (by simp) _)
            | false =>
              have HW3 := hid (show (s.data.toList == [102, 97, 108, 115, 101]) = false by rw [← Lib.toList_data]; exact hw3)
              cases hw4 : (s.toList == [46, 105, 110, 102]) with
              | true =>
                have HW4 := hid (show (s.data.toList == [46, 105, 110, 102]) = true by rw [← Lib.toList_data]; exact hw4)
                go_wp2
                refine bodyPost_ret (v := .tuple #[.agg #[.int .i64 0, .int .i64 (0), .string ⟨#[]⟩], .int .i64 50]) (by simp [results, Tryz.results36, go_sem, c0, c1, c2]) rfl ⟨?_, ?_⟩
                · rw [HR.out, show wordR s.data.toList = some (sc0, 50) from (by unfold wordR; rw [HE.out, HW0.out, HW1.out, HW2.out, HW3.out, HW4.out]; rfl)]; rfl
                · repeat (first | exact hbw | refine Below.setCell ?_ (by simp) _)
              | false =>
                have HW4 := hid (show (s.data.toList == [46, 105, 110, 102]) = false by rw [← Lib.toList_data]; exact hw4)
                cases hw5 : (s.toList == [43, 46, 105, 110, 102]) with
                | true =>
                  have HW5 := hid (show (s.data.toList == [43, 46, 105, 110, 102]) = true by rw [← Lib.toList_data]; exact hw5)
                  go_wp2
                  refine bodyPost_ret (v := .tuple #[.agg #[.int .i64 0, .int .i64 (0), .string ⟨#[]⟩], .int .i64 50]) (by simp [results, Tryz.results36, go_sem, c0, c1, c2]) rfl ⟨?_, ?_⟩
                  · rw [HR.out, show wordR s.data.toList = some (sc0, 50) from (by unfold wordR; rw [HE.out, HW0.out, HW1.out, HW2.out, HW3.out, HW4.out, HW5.out]; rfl)]; rfl
                  · repeat (first | exact hbw | refine Below.setCell ?_ (by simp) _)
                | false =>
                  have HW5 := hid (show (s.data.toList == [43, 46, 105, 110, 102]) = false by rw [← Lib.toList_data]; exact hw5)
                  cases hw6 : (s.toList == [45, 46, 105, 110, 102]) with
                  | true =>
                    have HW6 := hid (show (s.data.toList == [45, 46, 105, 110, 102]) = true by rw [← Lib.toList_data]; exact hw6)
                    go_wp2
                    refine bodyPost_ret (v := .tuple #[.agg #[.int .i64 0, .int .i64 (0), .string ⟨#[]⟩], .int .i64 50]) (by simp [results, Tryz.results36, go_sem, c0, c1, c2]) rfl ⟨?_, ?_⟩
                    · rw [HR.out, show wordR s.data.toList = some (sc0, 50) from (by unfold wordR; rw [HE.out, HW0.out, HW1.out, HW2.out, HW3.out, HW4.out, HW5.out, HW6.out]; rfl)]; rfl
                    · repeat (first | exact hbw | refine Below.setCell ?_ (by simp) _)
                  | false =>
                    have HW6 := hid (show (s.data.toList == [45, 46, 105, 110, 102]) = false by rw [← Lib.toList_data]; exact hw6)
                    cases hw7 : (s.toList == [46, 110, 97, 110]) with
                    | true =>
                      have HW7 := hid (show (s.data.toList == [46, 110, 97, 110]) = true by rw [← Lib.toList_data]; exact hw7)
                      go_wp2
                      refine bodyPost_ret (v := .tuple #[.agg #[.int .i64 0, .int .i64 (0), .string ⟨#[]⟩], .int .i64 50]) (by simp [results, Tryz.results36, go_sem, c0, c1, c2]) rfl ⟨?_, ?_⟩
                      · rw [HR.out, show wordR s.data.toList = some (sc0, 50) from (by unfold wordR; rw [HE.out, HW0.out, HW1.out, HW2.out, HW3.out, HW4.out, HW5.out, HW6.out, HW7.out]; rfl)]; rfl
                      · repeat (first | exact hbw | refine Below.setCell ?_ (by simp) _)
                    | false =>
                      have HW7 := hid (show (s.data.toList == [46, 110, 97, 110]) = false by rw [← Lib.toList_data]; exact hw7)
                      have HN := hid (show resolveR s = restR s by rw [HR.out, show wordR s.data.toList = none from (by unfold wordR; rw [HE.out, HW0.out, HW1.out, HW2.out, HW3.out, HW4.out, HW5.out, HW6.out, HW7.out]; rfl)]; rfl)
                      clear HR HW0 HW1 HW2 HW3 HW4 HW5 HW6 HW7
                      have hL := looks_same s w1 hs
                      cases hl : looksR s.data.toList with
                      | false =>
                        rw [hl] at hL
                        have HX := hid (show restR s = (⟨3, 0, s⟩, 0) by unfold restR; rw [hl]; rfl); clear hl
                        go_wp2_with fail
                        refine hL.mono ?_
                        clear hL
                        rintro e w2 ⟨rfl, hw⟩
                        subst w2
                        go_wp2
                        refine bodyPost_ret (v := .tuple #[.agg #[.int .i64 3, .int .i64 (0), .string s], .int .i64 0]) (by simp [results, Tryz.results36, go_sem, c0, c1, c2]) rfl ⟨?_, ?_⟩
                        · rw [HN.out, HX.out]; rfl
                        · repeat (first | exact hbw | refine Below.setCell ?_ (by simp) _)
                      | true =>
                        rw [hl] at hL
                        have hNu := number_same s w1 hs
                        obtain ⟨⟨n, ok⟩, hn⟩ : ∃ x, numR s.data.toList = x := ⟨_, rfl⟩
                        rw [hn] at hNu
                        dsimp only at hNu
                        cases ok with
                        | false =>
                          have HX := hid (show restR s = (sc0, 50) by unfold restR; rw [hl, hn]; rfl); clear hl hn
                          go_wp2_with fail
                          refine hL.mono ?_
                          clear hL
                          rintro e w2 ⟨rfl, hw⟩
                          subst w2
                          go_wp2_with fail
                          refine hNu.mono ?_
                          clear hNu
                          rintro e w2 ⟨rfl, hw⟩
                          subst w2
                          go_wp2
                          refine bodyPost_ret (v := .tuple #[.agg #[.int .i64 0, .int .i64 (0), .string ⟨#[]⟩], .int .i64 50]) (by simp [results, Tryz.results36, go_sem, c0, c1, c2]) rfl ⟨?_, ?_⟩
                          · rw [HN.out, HX.out]; rfl
                          · repeat (first | exact hbw | refine Below.setCell ?_ (by simp) _)
                        | true =>
                          have HX := hid (show restR s = (⟨2, n, ⟨#[]⟩⟩, 0) by unfold restR; rw [hl, hn]; rfl); clear hl hn
                          go_wp2_with fail
                          refine hL.mono ?_
                          clear hL
                          rintro e w2 ⟨rfl, hw⟩
                          subst w2
                          go_wp2_with fail
                          refine hNu.mono ?_
                          clear hNu
                          rintro e w2 ⟨rfl, hw⟩
                          subst w2
                          go_wp2
                          refine bodyPost_ret (v := .tuple #[.agg #[.int .i64 2, .int .i64 (n), .string ⟨#[]⟩], .int .i64 0]) (by simp [results, Tryz.results36, go_sem, c0, c1, c2]) rfl ⟨?_, ?_⟩
                          · rw [HN.out, HX.out]; rfl
                          · repeat (first | exact hbw | refine Below.setCell ?_ (by simp) _)
  · have he := isEmpty_true h0
    have HE := hid (dlist_true h0)
    go_enter Tryz.func36, Tryz.ntmps36
    go_wp2
    refine bodyPost_ret (v := .tuple #[.agg #[.int .i64 0, .int .i64 0, .string ⟨#[]⟩], .int .i64 0]) (by simp [results, Tryz.results36, go_sem]) rfl ⟨?_, ?_⟩
    · rw [show resolveR s = (sc0, 0) from (by unfold resolveR wordR; rw [HE.out]; rfl)]; rfl
    · repeat (first | exact Below.refl _ _ | refine Below.alloc ?_ (by simp) _ | refine Below.setCell ?_ (by simp) _)
end Go.Proofs.YtkdhaipjfkalfaaGreatDoor

namespace Go.Proofs.YtkdhaipjfkalfaaGreatDoor
open Go Go.RowKit Go.Lib
set_option linter.unusedSimpArgs false

set_option maxRecDepth 100000 in
set_option maxHeartbeats 1000000 in
theorem refRight_any (k n : Int) (s : ByteArray) (w : World) (hs : s.size ≤ 1000000) :
    Calls Tryz.prog 32 #[.agg #[.int .i64 k, .int .i64 n, .string s]] w fun e w' => e = .returned (.bool (rightP ⟨k, n, s⟩)) ∧ Below w.heap.size w w' := by
  have hb0 : Below w.heap.size w (w.alloc (.cells #[.int .i64 k, .int .i64 n, .string s] 23)) := (Below.refl _ w).alloc (Nat.le_refl _) _
  have hse : ∃ b, s.toList.isEmpty = b ∧ Hid (s.data.toList.isEmpty = b) := ⟨_, rfl, hid (by rw [Lib.toList_data])⟩
  obtain ⟨em, he, HE⟩ := hse
  by_cases k0 : k = 0
  · subst k0
    cases hn : (n == 0) with
    | false =>
      go_enter Tryz.func32, Tryz.ntmps32
      go_wp2
      go_ret
      exact ⟨by rw [show rightP ⟨0, n, s⟩ = false from (by unfold rightP; simp [hn])]; rfl, hb0⟩
    | true =>
      have hn0 : n = 0 := by simpa using hn
      subst hn0
      go_enter Tryz.func32, Tryz.ntmps32
      go_wp2
      go_ret
      exact ⟨by rw [show rightP ⟨0, 0, s⟩ = em from (by unfold rightP; simp [HE.out])]; rfl, hb0⟩
  by_cases k1 : k = 1
  · subst k1
    by_cases n0 : n = 0
    · subst n0
      go_enter Tryz.func32, Tryz.ntmps32
      go_wp2
      go_ret
      exact ⟨by rw [show rightP ⟨1, 0, s⟩ = em from (by unfold rightP; simp [HE.out])]; rfl, hb0⟩
    by_cases n1 : n = 1
    · subst n1
      go_enter Tryz.func32, Tryz.ntmps32
      go_wp2
      go_ret
      exact ⟨by rw [show rightP ⟨1, 1, s⟩ = em from (by unfold rightP; simp [HE.out])]; rfl, hb0⟩
    · have e0 : (n == 0) = false := by simpa using n0
      have e1 : (n == 1) = false := by simpa using n1
      go_enter Tryz.func32, Tryz.ntmps32
      go_wp2
      go_ret
      exact ⟨by rw [show rightP ⟨1, n, s⟩ = false from (by unfold rightP; simp [e0, e1])]; rfl, hb0⟩
  by_cases k2 : k = 2
  · subst k2
    by_cases n0 : -999999999999999 ≤ n
    · by_cases n1 : n ≤ 999999999999999
      · have H0 := hid n0; have H1 := hid n1
        go_enter Tryz.func32, Tryz.ntmps32
        go_wp2
        go_ret
        exact ⟨by rw [show rightP ⟨2, n, s⟩ = em from (by unfold rightP; simp [HE.out]; intro _; exact ⟨H0.out, H1.out⟩)]; rfl, hb0⟩
      · have H1 := hid n1
        go_enter Tryz.func32, Tryz.ntmps32
        go_wp2
        go_ret
        exact ⟨by rw [show rightP ⟨2, n, s⟩ = false from (by unfold rightP; have := H1.out; simp; omega)]; rfl, hb0⟩
    · have H1 := hid n0
      go_enter Tryz.func32, Tryz.ntmps32
      go_wp2
      go_ret
      exact ⟨by rw [show rightP ⟨2, n, s⟩ = false from (by unfold rightP; have := H1.out; simp; omega)]; rfl, hb0⟩
  by_cases k3 : k = 3
  · subst k3
    cases hn : (n == 0) with
    | false =>
      go_enter Tryz.func32, Tryz.ntmps32
      go_wp2
      go_ret
      exact ⟨by rw [show rightP ⟨3, n, s⟩ = false from (by unfold rightP; simp [hn])]; rfl, hb0⟩
    | true =>
      have HN := hid hn
      go_enter Tryz.func32, Tryz.ntmps32
      go_wp2_with fail
      refine (refRight04_any s _ hs).mono ?_
      rintro e w1 ⟨rfl, hb1⟩
      go_wp2
      go_ret
      exact ⟨by rw [show rightP ⟨3, n, s⟩ = validD s.data.toList from (by unfold rightP; simp [HN.out])]; rfl, hb0.trans (hb1.mono (by simp))⟩
  have e0 : (k == 0) = false := by simpa using k0
  have e1 : (k == 1) = false := by simpa using k1
  have e2 : (k == 2) = false := by simpa using k2
  have e3 : (k == 3) = false := by simpa using k3
  go_enter Tryz.func32, Tryz.ntmps32
  go_wp2
  go_ret
  exact ⟨by rw [show rightP ⟨k, n, s⟩ = false from (by unfold rightP; simp [k0, k1, k2, k3])]; rfl, hb0⟩
end Go.Proofs.YtkdhaipjfkalfaaGreatDoor
