import Derived.Test.YtghelkkndkbejaaGreatDoorHa
/- What is proved: law 15's TokNotes, at every input. -/
namespace Go.Proofs.YtghelkkndkbejaaGreatDoor
open Go Go.RowKit Go.Lib
set_option linter.unusedSimpArgs false
set_option linter.unusedVariables false

theorem notes_facts (l m : List UInt8) (h40 : (readT m).2.2 ≠ 40) (h80 : (readT m).2.2 ≠ 80) :
    (∃ (p q e : Nat) (ts : List Tk), readT l = ([], p, 42) ∧ readT (noted l m) = (ts, q, e) ∧ (e = 0 ∨ e ≠ 0 ∧ ts = [])) ∨
    (∃ e p : Nat, readT l = ([], p, e) ∧ e ≠ 0 ∧ e ≠ 42 ∧ readT (noted l m) = ([], p, e)) ∨
    (∃ ts, readT l = (ts, 0, 0) ∧ readT (noted l m) = (ts, 0, 0) ∧ ts.length ≤ l.length) := by
  have hN := readT_noted l m h40 h80
  have hA : ∃ (q e : Nat) (ts : List Tk), readT (noted l m) = (ts, q, e) ∧ (e = 0 ∨ e ≠ 0 ∧ ts = []) := by
    rcases readT_cases (noted l m) with ⟨e, p, hr, he, _⟩ | ⟨ts, hr, _⟩
    · exact ⟨p, e, [], hr, .inr ⟨he, rfl⟩⟩
    · exact ⟨0, 0, ts, hr, .inl rfl⟩
  rcases readT_cases l with ⟨e, p, hr, he, _⟩ | ⟨ts, hr, hri⟩
  · by_cases h42 : e = 42
    · subst h42
      obtain ⟨q, e, ts, h1, h2⟩ := hA
      exact .inl ⟨p, q, e, ts, hr, h1, h2⟩
    · rcases hN with ⟨h, _⟩ | h
      · rw [hr] at h; exact absurd h h42
      · exact .inr (.inl ⟨e, p, hr, he, h42, by rw [h, hr]⟩)
  · rcases hN with ⟨h, _⟩ | h
    · rw [hr] at h; cases h
    · refine .inr (.inr ⟨ts, hr, by rw [h, hr], ?_⟩)
      cases ts with
      | nil => simp
      | cons t r =>
        have hpos : 0 < l.length := by have := hri.2.1; omega
        have := rises_len (t :: r) (-1) 0 (by omega) (by omega) hri
        omega

set_option maxRecDepth 100000 in
set_option maxHeartbeats 4000000 in
theorem TokNotes_any (s note : ByteArray) (w : World) (hT : Tabs w) (hE : ErrTy w) :
    Calls Tryz.prog 6 #[.string s, .string note] w fun e w' => e = .returned (.bool true) ∧ Below w.heap.size w w' := by
  have hcs := cut_same s
  have hcn := cut_same note
  have hSs := cut2_size s
  have hNs := cut2_size note
  obtain ⟨S, hS⟩ : ∃ S, cut2 s = S := ⟨_, rfl⟩
  obtain ⟨M, hM⟩ : ∃ M, cut2 note = M := ⟨_, rfl⟩
  rw [hS] at hcs hSs
  rw [hM] at hcn hNs
  have hR := fun X wx (hX : X.size ≤ 100000) hx => tRead_any X wx hX (hT.below hx) (hE.below hx)
  have hsh := shown_any w hT hE
  have hF := hid (notes_facts S.data.toList M.data.toList)
  clear hS hM hT hE
  obtain ⟨⟨mt, mp, me⟩, hm⟩ : ∃ x, readT M.data.toList = x := ⟨_, rfl⟩
  go_enter Tryz.func6, Tryz.ntmps6
  go_wp2_with fail
  refine hsh.mono ?_
  rintro e w1 ⟨rfl, hs1⟩
  clear hsh
  go_wp2_with fail
  refine (hcs w1).mono ?_
  rintro e w1' ⟨rfl, hw⟩
  subst w1'
  clear hcs
  go_wp2_with fail
  refine (hcn w1).mono ?_
  rintro e w1' ⟨rfl, hw⟩
  subst w1'
  clear hcn
  go_wp2_with fail
  refine (hR M _ (by omega) hs1).mono ?_
  rw [hm]
  rintro e w2 ⟨v2, rfl, -, hb2⟩
  replace hs1 := below_step hs1 hb2
  clear hb2
  go_wp2_with fail
  refine (hR S _ (by omega) hs1).mono ?_
  obtain ⟨⟨lt, lp, le⟩, hl⟩ : ∃ x, readT S.data.toList = x := ⟨_, rfl⟩
  rw [hl]
  rintro e w3 ⟨v3, rfl, hv3, hb2⟩
  replace hs1 := below_step hs1 hb2
  clear hb2
  by_cases h40 : me = 40
  · subst me
    go_wp2
    go_ret
    exact ⟨rfl, hs1⟩
  by_cases h80 : me = 80
  · subst me
    go_wp2
    go_ret
    exact ⟨rfl, hs1⟩
  have c40 : ((me : Int) == 40) = false := by rw [beq_eq_false_iff_ne]; omega
  have c80 : ((me : Int) == 80) = false := by rw [beq_eq_false_iff_ne]; omega
  have HF := hF.out (by rw [hm]; exact h40) (by rw [hm]; exact h80)
  rw [hl] at HF
  have hX : ∀ X : ByteArray, X = S ++ ⟨#[32, 35]⟩ ++ M → X.data.toList = noted S.data.toList M.data.toList := fun X hX => by rw [hX]; simp [noted]
  have hXs : (S ++ ⟨#[32, 35]⟩ ++ M).size ≤ 100000 := by rw [ByteArray.size_append, ByteArray.size_append]; show S.size + 2 + M.size ≤ 100000; omega
  replace hX := hid (hX _ rfl)
  clear hF hl hm
  go_wp2_with fail
  refine (hR _ _ hXs hs1).mono ?_
  rw [hX.out]
  obtain ⟨⟨nt, np, ne⟩, hn⟩ : ∃ x, readT (noted S.data.toList M.data.toList) = x := ⟨_, rfl⟩
  rw [hn] at HF ⊢
  rintro e w4 ⟨v4, rfl, hv4, hb4⟩
  clear hX hR
  rcases HF with ⟨p, q, e, ts, h1, h2, h3⟩ | ⟨e, p, h1, h2, h3, h4⟩ | ⟨ts, h1, h2, h3⟩
  · simp only [Prod.mk.injEq] at h1 h2
    obtain ⟨rfl, rfl, rfl⟩ := h1
    obtain ⟨rfl, rfl, rfl⟩ := h2
    obtain ⟨A, ca, rfl, -⟩ := hv3
    obtain ⟨B, cb, rfl, -⟩ := hv4
    rcases h3 with rfl | ⟨he, rfl⟩
    · go_wp2
      go_ret
      exact ⟨rfl, below_step hs1 hb4⟩
    · have ce : ((ne : Int) == 0) = false := by rw [beq_eq_false_iff_ne]; omega
      go_wp2
      go_ret
      exact ⟨rfl, below_step hs1 hb4⟩
  · simp only [Prod.mk.injEq] at h1 h4
    obtain ⟨rfl, rfl, rfl⟩ := h1
    obtain ⟨rfl, rfl, rfl⟩ := h4
    obtain ⟨A, ca, rfl, -⟩ := hv3
    obtain ⟨B, cb, rfl, -⟩ := hv4
    have ce : ((ne : Int) == 0) = false := by rw [beq_eq_false_iff_ne]; omega
    have cf : ((ne : Int) == 42) = false := by rw [beq_eq_false_iff_ne]; omega
    go_wp2
    go_ret
    exact ⟨rfl, below_step hs1 hb4⟩
  · simp only [Prod.mk.injEq] at h1 h2
    obtain ⟨rfl, rfl, rfl⟩ := h1
    obtain ⟨rfl, rfl, rfl⟩ := h2
    have hS1 := tSame_any v3 v4 nt nt w4 (hv3.below hb4) hv4 (by rw [← Lib.size_eq] at h3; omega) (by rw [← Lib.size_eq] at h3; omega)
    rw [show decide (nt = nt) = true from decide_eq_true rfl] at hS1
    go_wp2_with fail
    refine hS1.mono ?_
    rintro e w5 ⟨rfl, hb5⟩
    go_wp2
    go_ret
    exact ⟨rfl, below_step (below_step hs1 hb4) hb5⟩
end Go.Proofs.YtghelkkndkbejaaGreatDoor
