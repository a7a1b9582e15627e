import Derived.Test.YtccjfoldjbmnfaaDoorRg
namespace Go.Proofs.YtccjfoldjbmnfaaDoor
open Go Go.RowKit Go.Lib
set_option linter.unusedSimpArgs false

def wordR (l : List UInt8) : Option (Sc × Int) :=
  if l.isEmpty then some (sc0, 0)
  else if l == [110, 117, 108, 108] then some (sc0, 0)
  else if l == [126] then some (sc0, 0)
  else if l == [116, 114, 117, 101] then some (⟨1, 1, ⟨#[]⟩⟩, 0)
  else if l == [102, 97, 108, 115, 101] then some (⟨1, 0, ⟨#[]⟩⟩, 0)
  else if l == [46, 105, 110, 102] then some (sc0, 50)
  else if l == [43, 46, 105, 110, 102] then some (sc0, 50)
  else if l == [45, 46, 105, 110, 102] then some (sc0, 50)
  else if l == [46, 110, 97, 110] then some (sc0, 50)
  else none
def restR (s : ByteArray) : Sc × Int :=
  if !looksR s.data.toList then (⟨3, 0, s⟩, 0) else if !(numR s.data.toList).2 then (sc0, 50) else (⟨2, (numR s.data.toList).1, ⟨#[]⟩⟩, 0)
def resolveR (s : ByteArray) : Sc × Int :=
  if !s.data.toList.isEmpty && !mayR s.data.toList false then (sc0, 51) else (wordR s.data.toList).getD (restR s)
def readR (s : ByteArray) (flow : Bool) : Sc × Int := if !mayR s.data.toList flow then (sc0, 51) else resolveR s

set_option maxRecDepth 100000 in
set_option maxHeartbeats 2000000 in
theorem refResolve_any (s : ByteArray) (w : World) (hs : s.size ≤ 1000000) :
    Calls Tryd.prog 11 #[.string s] w fun e w' => e = .returned (.tuple #[scV (resolveR s).1, .int .i64 (resolveR s).2]) ∧ Below w.heap.size w w' := by
  by_cases h0 : 0 < s.size
  · have he := isEmpty_false h0
    have HE := hid (dlist_false h0)
    go_enter Tryd.func11, Tryd.ntmps11
    go_wp2_with fail
    refine (mayR_any s false _ hs).mono ?_
    rintro e w1 ⟨rfl, hb1⟩
    have hbw : Below w.heap.size w w1 := ((Below.refl _ w).alloc (Nat.le_refl _) _).trans (hb1.mono (by simp))
    have hk := heap_new _ _ hb1
    obtain ⟨c0, c1, c2, f0, f1, f2⟩ := blk3 hk
    clear hk
    cases hm : mayR s.data.toList false with
    | false =>
      have HM := hid hm; clear hm
      go_wp2
      refine bodyPost_ret (v := .tuple #[.agg #[.int .i64 0, .int .i64 (0), .string ⟨#[]⟩], .int .i64 51]) (by simp [results, Tryd.results11, go_sem, c0, c1, c2]) rfl ⟨?_, ?_⟩
      · rw [show resolveR s = (sc0, 51) from (by unfold resolveR; rw [HE.out, HM.out]; rfl)]; rfl
      · repeat (first | exact hbw | refine Below.setCell ?_ (by simp) _)
    | true =>
      have HR := hid (show resolveR s = (wordR s.data.toList).getD (restR s) by unfold resolveR; rw [HE.out, hm]; rfl)
      clear hm hb1
      cases hw0 : (s.toList == [110, 117, 108, 108]) with
      | true =>
        have HW0 := hid (show (s.data.toList == [110, 117, 108, 108]) = true by rw [← Lib.toList_data]; exact hw0)
        go_wp2
        refine bodyPost_ret (v := .tuple #[.agg #[.int .i64 0, .int .i64 (0), .string ⟨#[]⟩], .int .i64 0]) (by simp [results, Tryd.results11, go_sem, c0, c1, c2]) rfl ⟨?_, ?_⟩
        · rw [HR.out, show wordR s.data.toList = some (sc0, 0) from (by unfold wordR; rw [HE.out, HW0.out]; rfl)]; rfl
        · repeat (first | exact hbw | refine Below.setCell ?_ (by simp) _)
      | false =>
        have HW0 := hid (show (s.data.toList == [110, 117, 108, 108]) = false by rw [← Lib.toList_data]; exact hw0)
        cases hw1 : (s.toList == [126]) with
        | true =>
          have HW1 := hid (show (s.data.toList == [126]) = true by rw [← Lib.toList_data]; exact hw1)
          go_wp2
          refine bodyPost_ret (v := .tuple #[.agg #[.int .i64 0, .int .i64 (0), .string ⟨#[]⟩], .int .i64 0]) (by simp [results, Tryd.results11, go_sem, c0, c1, c2]) rfl ⟨?_, ?_⟩
          · rw [HR.out, show wordR s.data.toList = some (sc0, 0) from (by unfold wordR; rw [HE.out, HW0.out, HW1.out]; rfl)]; rfl
          · repeat (first | exact hbw | refine Below.setCell ?_ (by simp) _)
        | false =>
          have HW1 := hid (show (s.data.toList == [126]) = false by rw [← Lib.toList_data]; exact hw1)
          cases hw2 : (s.toList == [116, 114, 117, 101]) with
          | true =>
            have HW2 := hid (show (s.data.toList == [116, 114, 117, 101]) = true by rw [← Lib.toList_data]; exact hw2)
            go_wp2
            refine bodyPost_ret (v := .tuple #[.agg #[.int .i64 1, .int .i64 (1), .string ⟨#[]⟩], .int .i64 0]) (by simp [results, Tryd.results11, go_sem, c0, c1, c2]) rfl ⟨?_, ?_⟩
            · rw [HR.out, show wordR s.data.toList = some (⟨1, 1, ⟨#[]⟩⟩, 0) from (by unfold wordR; rw [HE.out, HW0.out, HW1.out, HW2.out]; rfl)]; rfl
            · repeat (first | exact hbw | refine Below.setCell ?_ (by simp) _)
          | false =>
            have HW2 := hid (show (s.data.toList == [116, 114, 117, 101]) = false by rw [← Lib.toList_data]; exact hw2)
            cases hw3 : (s.toList == [102, 97, 108, 115, 101]) with
            | true =>
              have HW3 := hid (show (s.data.toList == [102, 97, 108, 115, 101]) = true by rw [← Lib.toList_data]; exact hw3)
              go_wp2
              refine bodyPost_ret (v := .tuple #[.agg #[.int .i64 1, .int .i64 (0), .string ⟨#[]⟩], .int .i64 0]) (by simp [results, Tryd.results11, go_sem, c0, c1, c2]) rfl ⟨?_, ?_⟩
              · rw [HR.out, show wordR s.data.toList = some (⟨1, 0, ⟨#[]⟩⟩, 0) from (by unfold wordR; rw [HE.out, HW0.out, HW1.out, HW2.out, HW3.out]; rfl)]; rfl
              · repeat (first | exact hbw | refine Below.setCell ?_ (by simp) _)
            | false =>
              have HW3 := hid (show (s.data.toList == [102, 97, 108, 115, 101]) = false by rw [← Lib.toList_data]; exact hw3)
              cases hw4 : (s.toList == [46, 105, 110, 102]) with
              | true =>
                have HW4 := hid (show (s.data.toList == [46, 105, 110, 102]) = true by rw [← Lib.toList_data]; exact hw4)
                go_wp2
                refine bodyPost_ret (v := .tuple #[.agg #[.int .i64 0, .int .i64 (0), .string ⟨#[]⟩], .int .i64 50]) (by simp [results, Tryd.results11, go_sem, c0, c1, c2]) rfl ⟨?_, ?_⟩
                · rw [HR.out, show wordR s.data.toList = some (sc0, 50) from (by unfold wordR; rw [HE.out, HW0.out, HW1.out, HW2.out, HW3.out, HW4.out]; rfl)]; rfl
                · repeat (first | exact hbw | refine Below.setCell ?_ (by simp) _)
              | false =>
                have HW4 := hid (show (s.data.toList == [46, 105, 110, 102]) = false by rw [← Lib.toList_data]; exact hw4)
                cases hw5 : (s.toList == [43, 46, 105, 110, 102]) with
                | true =>
                  have HW5 := hid (show (s.data.toList == [43, 46, 105, 110, 102]) = true by rw [← Lib.toList_data]; exact hw5)
                  go_wp2
                  refine bodyPost_ret (v := .tuple #[.agg #[.int .i64 0, .int .i64 (0), .string ⟨#[]⟩], .int .i64 50]) (by simp [results, Tryd.results11, go_sem, c0, c1, c2]) rfl ⟨?_, ?_⟩
                  · rw [HR.out, show wordR s.data.toList = some (sc0, 50) from (by unfold wordR; rw [HE.out, HW0.out, HW1.out, HW2.out, HW3.out, HW4.out, HW5.out]; rfl)]; rfl
                  · repeat (first | exact hbw | refine Below.setCell ?_ (by simp) _)
                | false =>
                  have HW5 := hid (show (s.data.toList == [43, 46, 105, 110, 102]) = false by rw [← Lib.toList_data]; exact hw5)
                  cases hw6 : (s.toList == [45, 46, 105, 110, 102]) with
                  | true =>
                    have HW6 := hid (show (s.data.toList == [45, 46, 105, 110, 102]) = true by rw [← Lib.toList_data]; exact hw6)
                    go_wp2
                    refine bodyPost_ret (v := .tuple #[.agg #[.int .i64 0, .int .i64 (0), .string ⟨#[]⟩], .int .i64 50]) (by simp [results, Tryd.results11, go_sem, c0, c1, c2]) rfl ⟨?_, ?_⟩
                    · rw [HR.out, show wordR s.data.toList = some (sc0, 50) from (by unfold wordR; rw [HE.out, HW0.out, HW1.out, HW2.out, HW3.out, HW4.out, HW5.out, HW6.out]; rfl)]; rfl
                    · repeat (first | exact hbw | refine Below.setCell ?_ (by simp) _)
                  | false =>
                    have HW6 := hid (show (s.data.toList == [45, 46, 105, 110, 102]) = false by rw [← Lib.toList_data]; exact hw6)
                    cases hw7 : (s.toList == [46, 110, 97, 110]) with
                    | true =>
                      have HW7 := hid (show (s.data.toList == [46, 110, 97, 110]) = true by rw [← Lib.toList_data]; exact hw7)
                      go_wp2
                      refine bodyPost_ret (v := .tuple #[.agg #[.int .i64 0, .int .i64 (0), .string ⟨#[]⟩], .int .i64 50]) (by simp [results, Tryd.results11, go_sem, c0, c1, c2]) rfl ⟨?_, ?_⟩
                      · rw [HR.out, show wordR s.data.toList = some (sc0, 50) from (by unfold wordR; rw [HE.out, HW0.out, HW1.out, HW2.out, HW3.out, HW4.out, HW5.out, HW6.out, HW7.out]; rfl)]; rfl
                      · repeat (first | exact hbw | refine Below.setCell ?_ (by simp) _)
                    | false =>
                      have HW7 := hid (show (s.data.toList == [46, 110, 97, 110]) = false by rw [← Lib.toList_data]; exact hw7)
                      have HN := hid (show resolveR s = restR s by rw [HR.out, show wordR s.data.toList = none from (by unfold wordR; rw [HE.out, HW0.out, HW1.out, HW2.out, HW3.out, HW4.out, HW5.out, HW6.out, HW7.out]; rfl)]; rfl)
                      clear HR HW0 HW1 HW2 HW3 HW4 HW5 HW6 HW7
                      have hL := looks_same s w1 hs
                      cases hl : looksR s.data.toList with
                      | false =>
                        rw [hl] at hL
                        have HX := hid (show restR s = (⟨3, 0, s⟩, 0) by unfold restR; rw [hl]; rfl); clear hl
                        go_wp2_with fail
                        refine hL.mono ?_
                        clear hL
                        rintro e w2 ⟨rfl, hw⟩
                        subst w2
                        go_wp2
                        refine bodyPost_ret (v := .tuple #[.agg #[.int .i64 3, .int .i64 (0), .string s], .int .i64 0]) (by simp [results, Tryd.results11, go_sem, c0, c1, c2]) rfl ⟨?_, ?_⟩
                        · rw [HN.out, HX.out]; rfl
                        · repeat (first | exact hbw | refine Below.setCell ?_ (by simp) _)
                      | true =>
                        rw [hl] at hL
                        have hNu := number_same s w1 hs
                        obtain ⟨⟨n, ok⟩, hn⟩ : ∃ x, numR s.data.toList = x := ⟨_, rfl⟩
                        rw [hn] at hNu
                        dsimp only at hNu
                        cases ok with
                        | false =>
                          have HX := hid (show restR s = (sc0, 50) by unfold restR; rw [hl, hn]; rfl); clear hl hn
                          go_wp2_with fail
                          refine hL.mono ?_
                          clear hL
                          rintro e w2 ⟨rfl, hw⟩
                          subst w2
                          go_wp2_with fail
                          refine hNu.mono ?_
                          clear hNu
                          rintro e w2 ⟨rfl, hw⟩
                          subst w2
                          go_wp2
                          refine bodyPost_ret (v := .tuple #[.agg #[.int .i64 0, .int .i64 (0), .string ⟨#[]⟩], .int .i64 50]) (by simp [results, Tryd.results11, go_sem, c0, c1, c2]) rfl ⟨?_, ?_⟩
                          · rw [HN.out, HX.out]; rfl
                          · repeat (first | exact hbw | refine Below.setCell ?_ (by simp) _)
                        | true =>
                          have HX := hid (show restR s = (⟨2, n, ⟨#[]⟩⟩, 0) by unfold restR; rw [hl, hn]; rfl); clear hl hn
                          go_wp2_with fail
                          refine hL.mono ?_
                          clear hL
                          rintro e w2 ⟨rfl, hw⟩
                          subst w2
                          go_wp2_with fail
                          refine hNu.mono ?_
                          clear hNu
                          rintro e w2 ⟨rfl, hw⟩
                          subst w2
                          go_wp2
                          refine bodyPost_ret (v := .tuple #[.agg #[.int .i64 2, .int .i64 (n), .string ⟨#[]⟩], .int .i64 0]) (by simp [results, Tryd.results11, go_sem, c0, c1, c2]) rfl ⟨?_, ?_⟩
                          · rw [HN.out, HX.out]; rfl
                          · repeat (first | exact hbw | refine Below.setCell ?_ (by simp) _)
  · have he := isEmpty_true h0
    have HE := hid (dlist_true h0)
    go_enter Tryd.func11, Tryd.ntmps11
    go_wp2
    refine bodyPost_ret (v := .tuple #[.agg #[.int .i64 0, .int .i64 0, .string ⟨#[]⟩], .int .i64 0]) (by simp [results, Tryd.results11, go_sem]) rfl ⟨?_, ?_⟩
    · rw [show resolveR s = (sc0, 0) from (by unfold resolveR wordR; rw [HE.out]; rfl)]; rfl
    · repeat (first | exact Below.refl _ _ | refine Below.alloc ?_ (by simp) _ | refine Below.setCell ?_ (by simp) _)

set_option maxRecDepth 100000 in
set_option maxHeartbeats 400000 in
theorem refRead_any (s : ByteArray) (flow : Bool) (w : World) (hs : s.size ≤ 1000000) :
    Calls Tryd.prog 13 #[.string s, .bool flow] w fun e w' => e = .returned (.tuple #[scV (readR s flow).1, .int .i64 (readR s flow).2]) ∧ Below w.heap.size w w' := by
  obtain ⟨⟨⟨k, n, t⟩, er⟩, hx⟩ : ∃ p, resolveR s = p := ⟨_, rfl⟩
  have HX := hid hx; clear hx
  go_enter Tryd.func13, Tryd.ntmps13
  go_wp2_with fail
  refine (mayR_any s flow _ hs).mono ?_
  rintro e w1 ⟨rfl, hb1⟩
  have hbw : Below w.heap.size w w1 := ((Below.refl _ w).alloc (Nat.le_refl _) _).trans (hb1.mono (by simp))
  have hk := heap_new _ _ hb1
  cases hm : mayR s.data.toList flow with
  | false =>
    obtain ⟨c0, c1, c2, f0, f1, f2⟩ := blk3 hk
    have HM := hid hm; clear hm hk
    go_wp2
    refine bodyPost_ret (v := .tuple #[.agg #[.int .i64 0, .int .i64 0, .string ⟨#[]⟩], .int .i64 51]) (by simp [results, Tryd.results13, go_sem, c0, c1, c2]) rfl ⟨?_, ?_⟩
    · rw [show readR s flow = (sc0, 51) from (by unfold readR; rw [HM.out]; rfl)]; rfl
    · repeat (first | exact hbw | refine Below.setCell ?_ (by simp) _)
  | true =>
    have HM := hid hm; clear hm
    go_wp2_with fail
    refine (refResolve_any s _ hs).mono ?_
    rw [HX.out]
    unfold scV
    rintro e w2 ⟨rfl, hb2⟩
    have hk2 := heap_below hk hb2
    have hb02 : Below w.heap.size w w2 := hbw.trans (hb2.mono hbw.size)
    obtain ⟨c0, c1, c2, f0, f1, f2⟩ := blk3 hk2
    clear hk hk2
    go_wp2
    refine bodyPost_ret (v := .tuple #[.agg #[.int .i64 k, .int .i64 n, .string t], .int .i64 er]) (by simp [results, Tryd.results13, go_sem, c0, c1, c2]) rfl ⟨?_, ?_⟩
    · rw [show readR s flow = resolveR s from (by unfold readR; rw [HM.out]; rfl), HX.out]; rfl
    · repeat (first | exact hb02 | refine Below.setCell ?_ (by simp) _)
end Go.Proofs.YtccjfoldjbmnfaaDoor
