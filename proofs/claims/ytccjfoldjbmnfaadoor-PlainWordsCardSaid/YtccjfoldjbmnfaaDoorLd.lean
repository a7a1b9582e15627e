import Derived.Test.YtccjfoldjbmnfaaDoorLb
namespace Go.Proofs.YtccjfoldjbmnfaaDoor
open Go Go.RowKit Go.Lib
set_option linter.unusedSimpArgs false

theorem read_none (s : ByteArray) (flow : Bool) (h : mayP s.data.toList flow = false) : readP s flow = (sc0, 51) := by unfold readP; rw [h]; rfl
theorem app_list (a b : ByteArray) : (a ++ b).data.toList = a.data.toList ++ b.data.toList := by simp

set_option maxRecDepth 100000 in
set_option maxHeartbeats 2000000 in
theorem PlainWords_any (s : ByteArray) (w : World) (hT : Tabs w) :
    Calls Tryd.prog 6 #[.string s] w fun e w' => e = .returned (.bool true) ∧ Below w.heap.size w w' := by
  obtain ⟨S, hS⟩ : ∃ S, cutB s = S := ⟨_, rfl⟩
  have hSs : S.size ≤ 100 := by have := cutB_size s; rw [hS] at this; omega
  have hcs := cut_same s
  rw [hS] at hcs
  clear hS
  have hM := fun wx hx => May_any S false wx (by omega) hx
  cases hm : mayP S.data.toList false with
  | false =>
    have hR := fun wx hx => Read_any S false wx (by omega) hx
    rw [read_none S false hm] at hR
    rw [hm] at hM
    simp only [scV, sc0] at hR
    clear hm
    go_enter Tryd.func6, Tryd.ntmps6
    go_wp2_with fail
    refine (shown_any _ hT).mono ?_
    rintro e w1 ⟨rfl, hs1⟩
    go_wp2_with fail
    refine (hcs w1).mono ?_
    clear hcs
    rintro e w1' ⟨rfl, hw⟩
    subst w1'
    go_wp2_with fail
    refine (hM _ (hT.below hs1)).mono ?_
    clear hM
    rintro e w2 ⟨rfl, hb2⟩
    have hs2 := below_step hs1 hb2
    go_wp2_with fail
    refine (hR _ (hT.below hs2)).mono ?_
    clear hR
    rintro e w3 ⟨rfl, hb3⟩
    have hs3 := below_step hs2 hb3
    clear hb2 hb3 hs1 hs2
    go_wp2
    go_ret
    exact ⟨rfl, hs3.alloc hs3.size _⟩
  | true =>
    obtain ⟨Q, hQ⟩ : ∃ Q, (⟨#[81]⟩ : ByteArray) ++ S = Q := ⟨_, rfl⟩
    have hQs : Q.size ≤ 1000000 := by rw [← hQ, ByteArray.size_append]; show 1 + S.size ≤ 1000000; omega
    have hQL : Q.data.toList = 81 :: S.data.toList := by rw [← hQ]; simp
    have hR := fun wx hx => Resolve_any Q wx hQs hx
    have hQM := fun wx hx => May_any Q false wx hQs hx
    rw [hQL, q_may _ hm] at hQM
    have hqr := q_resolve S hm
    rw [hQ] at hqr
    rw [hqr] at hR
    rw [hm] at hM
    simp only [scV] at hR
    clear hm hqr hQL
    go_enter Tryd.func6, Tryd.ntmps6
    go_wp2_with fail
    refine (shown_any _ hT).mono ?_
    rintro e w1 ⟨rfl, hs1⟩
    go_wp2_with fail
    refine (hcs w1).mono ?_
    clear hcs
    rintro e w1' ⟨rfl, hw⟩
    subst w1'
    go_wp2_with fail
    refine (hM _ (hT.below hs1)).mono ?_
    clear hM
    rintro e w2 ⟨rfl, hb2⟩
    have hs2 := below_step hs1 hb2
    go_wp2_with fail
    refine (hR _ (hT.below hs2)).mono ?_
    clear hR
    rintro e w3 ⟨rfl, hb3⟩
    have hs3 := below_step hs2 hb3
    clear hb2 hb3 hs1 hs2
    go_wp2_with fail
    refine (hQM _ ((hT.below hs3).alloc _)).mono ?_
    clear hQM
    rintro e w4 ⟨rfl, hb4⟩
    obtain ⟨hA, hd⟩ := laid_call hb4
    have hA4 : Blk w4 w3.heap.size ⟨3, 0, Q⟩ := hA
    have hs4 := below_step hs3 hd
    obtain ⟨a0, a1, a2⟩ : _ ∧ _ ∧ _ := ⟨hA4.c0, hA4.c1, hA4.c2⟩
    clear hA hd hb4 hs3 hA4
    go_wp2
    go_ret
    exact ⟨rfl, hs4⟩
end Go.Proofs.YtccjfoldjbmnfaaDoor
