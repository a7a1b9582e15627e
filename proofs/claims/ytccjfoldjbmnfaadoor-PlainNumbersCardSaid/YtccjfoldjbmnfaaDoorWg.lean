import Derived.Test.YtccjfoldjbmnfaaDoorWf
namespace Go.Proofs.YtccjfoldjbmnfaaDoor
open Go Go.RowKit Go.Lib

set_option maxRecDepth 100000 in
set_option maxHeartbeats 400000 in
theorem May_any (s : ByteArray) (flow : Bool) (w : World) (hs : s.size ≤ 1000000) (hT : Tabs w) :
    Calls Tryd.prog 14 #[.string s, .bool flow] w fun e w' => e = .returned (.bool (mayP s.data.toList flow)) ∧ Below w.heap.size w w' := by
  by_cases h0 : 0 < s.size
  · have he := isEmpty_false h0
    have hne : s.data.toList.isEmpty = false := by rw [← Lib.toList_data]; exact he
    have HE := hid hne; clear hne
    go_enter Tryd.func14, Tryd.ntmps14
    go_wp2_with fail
    refine (Right_any s _ hs hT).mono ?_
    rintro e w1 ⟨rfl, hb1⟩
    cases hv : validD s.data.toList with
    | false =>
      have HV := hid hv; clear hv
      go_wp2
      go_ret
      exact ⟨by rw [show mayP s.data.toList flow = false from (by unfold mayP; rw [HV.out]; simp)]; rfl, hb1⟩
    | true =>
      have HV := hid hv; clear hv
      go_wp2_with fail
      refine (isBegun_any s _ hs h0).mono ?_
      rintro e w2 ⟨rfl, hb2⟩
      have hb02 : Below w.heap.size w w2 := hb1.trans (hb2.mono hb1.size)
      cases hb : begunOK s.data.toList with
      | false =>
        have HB := hid hb; clear hb
        go_wp2
        go_ret
        exact ⟨by rw [show mayP s.data.toList flow = false from (by unfold mayP; rw [HV.out, HB.out]; simp)]; rfl, hb02⟩
      | true =>
        have HB := hid hb; clear hb
        go_wp2_with fail
        refine (isLong_any s flow _ hs).mono ?_
        rintro e w3 ⟨rfl, hb3⟩
        go_wp2
        go_ret
        exact ⟨by rw [show mayP s.data.toList flow = longOK s.data.toList flow from (by unfold mayP; rw [HV.out, HB.out, HE.out]; simp)]; rfl, hb02.trans (hb3.mono hb02.size)⟩
  · have he := isEmpty_true h0
    have hne : s.data.toList.isEmpty = true := by rw [← Lib.toList_data]; exact he
    have HE := hid hne; clear hne
    go_enter Tryd.func14, Tryd.ntmps14
    go_wp2
    go_ret
    exact ⟨by rw [show mayP s.data.toList flow = false from (by unfold mayP; rw [HE.out]; simp)]; rfl, Below.refl _ _⟩
end Go.Proofs.YtccjfoldjbmnfaaDoor
