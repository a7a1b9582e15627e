import Derived.Test.YtccjfoldjbmnfaaDoorLb
namespace Go.Proofs.YtccjfoldjbmnfaaDoor
open Go Go.RowKit Go.Lib
set_option linter.unusedSimpArgs false

theorem none_take {l : List UInt8} {k : Nat} (h : k < l.length) (h1 : (l.take k).all (fun c => !amongB flowL c) = true) (h2 : amongB flowL (l.getD k 0) = false) : (l.take (k + 1)).all (fun c => !amongB flowL c) = true := by
  rw [allN_take h, h1, h2]; rfl

set_option maxRecDepth 100000 in
set_option maxHeartbeats 2000000 in
theorem PlainFlows_any (s : ByteArray) (w : World) (hT : Tabs w) :
    Calls Tryd.prog 7 #[.string s] w fun e w' => e = .returned (.bool true) ∧ Below w.heap.size w w' := by
  obtain ⟨S, hS⟩ : ∃ S, cutB s = S := ⟨_, rfl⟩
  have hSs : S.size ≤ 100 := by have := cutB_size s; rw [hS] at this; omega
  have hcs := cut_same s
  rw [hS] at hcs
  clear hS
  have hMt := fun wx hx => May_any S true wx (by omega) hx
  have hMf := fun wx hx => May_any S false wx (by omega) hx
  go_enter Tryd.func7, Tryd.ntmps7
  go_wp2_with fail
  refine (shown_any _ hT).mono ?_
  rintro e w1 ⟨rfl, hs1⟩
  go_wp2_with fail
  refine (hcs w1).mono ?_
  clear hcs
  rintro e w1' ⟨rfl, hw⟩
  subst w1'
  have hT1 := hT.below hs1
  go_wp2
  go_loop [4] (fun i => ∃ k : Nat, k ≤ S.size ∧ i = .int .i64 k ∧ Hid ((S.data.toList.take k).all (fun c => !amongB flowL c) = true)) (fun i => S.size - (intOf i).toNat)
  case atStart => exact ⟨0, by omega, rfl, hid rfl⟩
  case round =>
    obtain ⟨k, hk, rfl, HI⟩ := hrel
    by_cases hlt : k < S.size
    · have hlti : (k : Int) < (S.size : Int) := by omega
      obtain ⟨d, hd⟩ : ∃ d, S[k]'hlt = d := ⟨_, rfl⟩
      have HD := hid ((getD_byte S k hlt).trans hd)
      have hAm := Among_same d ⟨flowL.toArray⟩ w1 (by decide)
      cases ha : amongB flowL d with
      | true =>
        rw [show amongB (⟨flowL.toArray⟩ : ByteArray).data.toList d = true from ha] at hAm
        rw [flow_among S.data.toList d (by rw [← HD.out, List.getD, List.getElem?_eq_getElem (by rw [← Lib.size_eq]; exact hlt)]; exact List.getElem_mem _) ha] at hMt
        clear ha
        go_wp2_with fail
        refine hAm.mono ?_
        clear hAm
        rintro e w2 ⟨rfl, hw⟩
        subst w2
        go_wp2_with fail
        refine (hMt _ hT1).mono ?_
        rintro e w2 ⟨rfl, hb2⟩
        have hs2 := below_step hs1 hb2
        go_wp2
        go_ret
        exact ⟨rfl, hs2⟩
      | false =>
        rw [show amongB (⟨flowL.toArray⟩ : ByteArray).data.toList d = false from ha] at hAm
        have HI' := hid (none_take (l := S.data.toList) (k := k) (by rw [← Lib.size_eq]; exact hlt) HI.out (by rw [HD.out]; exact ha))
        clear ha
        go_wp2_with fail
        refine hAm.mono ?_
        clear hAm
        rintro e w2 ⟨rfl, hw⟩
        subst w2
        go_wp2
        go_round
        case rel => exact ⟨k + 1, by omega, by go_num, HI'⟩
        case measure => simp [intOf]; omega
    · have hge : (S.size : Int) ≤ (k : Int) := by omega
      have hall : ∀ c ∈ S.data.toList, amongB flowL c = false := by
        have h := HI.out
        rw [List.take_of_length_le (by rw [← Lib.size_eq]; omega), List.all_eq_true] at h
        intro c hc
        simpa using h c hc
      have hfs := flow_same _ hall
      rw [hfs] at hMt
      obtain ⟨m, hm⟩ : ∃ m, mayP S.data.toList false = m := ⟨_, rfl⟩
      rw [hm] at hMt hMf
      obtain ⟨A1, hA1⟩ : ∃ A, (⟨#[32]⟩ : ByteArray) ++ S = A := ⟨_, rfl⟩
      obtain ⟨A2, hA2⟩ : ∃ A, S ++ (⟨#[32]⟩ : ByteArray) = A := ⟨_, rfl⟩
      obtain ⟨A3, hA3⟩ : ∃ A, S ++ (⟨#[58]⟩ : ByteArray) = A := ⟨_, rfl⟩
      obtain ⟨A4, hA4⟩ : ∃ A, S ++ (⟨#[32, 35]⟩ : ByteArray) = A := ⟨_, rfl⟩
      have h1 := fun wx hx => May_any A1 false wx (by rw [← hA1, ByteArray.size_append]; show 1 + S.size ≤ 1000000; omega) hx
      have h2 := fun wx hx => May_any A2 true wx (by rw [← hA2, ByteArray.size_append]; show S.size + 1 ≤ 1000000; omega) hx
      have h3 := fun wx hx => May_any A3 false wx (by rw [← hA3, ByteArray.size_append]; show S.size + 1 ≤ 1000000; omega) hx
      have h4 := fun wx hx => May_any A4 true wx (by rw [← hA4, ByteArray.size_append]; show S.size + 2 ≤ 1000000; omega) hx
      rw [show mayP A1.data.toList false = false from (by rw [← hA1, show (⟨#[32]⟩ ++ S : ByteArray).data.toList = 32 :: S.data.toList by simp]; exact blank_head _ _)] at h1
      rw [show mayP A2.data.toList true = false from (by rw [← hA2, show (S ++ ⟨#[32]⟩ : ByteArray).data.toList = S.data.toList ++ [32] by simp]; exact blank_last _ _)] at h2
      rw [show mayP A3.data.toList false = false from (by rw [← hA3, show (S ++ ⟨#[58]⟩ : ByteArray).data.toList = S.data.toList ++ [58] by simp]; exact colon_last _ _)] at h3
      rw [show mayP A4.data.toList true = false from (by rw [← hA4, show (S ++ ⟨#[32, 35]⟩ : ByteArray).data.toList = S.data.toList ++ [32, 35] by simp]; exact note_last _ _)] at h4
      clear hall hfs hm HI
      go_wp2_with fail
      refine (hMt _ hT1).mono ?_
      rintro e w2 ⟨rfl, hb⟩
      have hs2 := below_step hs1 hb
      clear hb hMt hs1 hT1
      go_wp2_with fail
      refine (hMf _ (hT.below hs2)).mono ?_
      rintro e w3 ⟨rfl, hb⟩
      have hs3 := below_step hs2 hb
      clear hb hMf hs2
      go_wp2_with fail
      refine (h1 _ (hT.below hs3)).mono ?_
      rintro e w4 ⟨rfl, hb⟩
      have hs4 := below_step hs3 hb
      clear hb h1 hs3
      go_wp2_with fail
      refine (h2 _ (hT.below hs4)).mono ?_
      rintro e w5 ⟨rfl, hb⟩
      have hs5 := below_step hs4 hb
      clear hb h2 hs4
      go_wp2_with fail
      refine (h3 _ (hT.below hs5)).mono ?_
      rintro e w6 ⟨rfl, hb⟩
      have hs6 := below_step hs5 hb
      clear hb h3 hs5
      go_wp2_with fail
      refine (h4 _ (hT.below hs6)).mono ?_
      rintro e w7 ⟨rfl, hb⟩
      have hs7 := below_step hs6 hb
      clear hb h4 hs6
      go_wp2
      go_ret
      exact ⟨rfl, hs7⟩
end Go.Proofs.YtccjfoldjbmnfaaDoor
