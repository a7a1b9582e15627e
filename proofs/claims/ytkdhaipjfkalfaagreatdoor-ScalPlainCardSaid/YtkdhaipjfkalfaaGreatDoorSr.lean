import Derived.Test.YtkdhaipjfkalfaaGreatDoorSb
import Derived.Test.YtkdhaipjfkalfaaGreatDoorQq
import Derived.Test.YtkdhaipjfkalfaaGreatDoorWl
import Derived.Handy
/- What is proved: package scal's Text and Read, at every scalar and every text of a bounded length. -/
namespace Go.Proofs.YtkdhaipjfkalfaaGreatDoor
open Go Go.RowKit Go.Lib
set_option linter.unusedSimpArgs false
set_option linter.unusedVariables false

theorem foldQ_len : ∀ (ps : List QP) (acc : List UInt8), (foldQ ps acc).1.length ≤ acc.length + 4 * ps.length
  | [], acc => by simp [foldQ]
  | .sign r z :: t, acc => by
    have h1 := foldQ_len t (acc ++ encodeRune r)
    have h2 := enc_le r
    rw [List.length_append] at h1
    show (foldQ t (acc ++ encodeRune r)).1.length ≤ _
    simp only [List.length_cons]; omega
  | .fin z :: t, acc => by show acc.length ≤ _; omega
  | .bad e :: t, acc => by show (0 : Nat) ≤ _; omega
theorem readQ_size (s : ByteArray) : (readQ s 0).1.length ≤ 4 * (s.size + 1) := by
  unfold readQ
  split
  · split
    · rename_i q hq
      have h1 := foldQ_len (piecesQ s q ((0 : Int).toNat + 1)) []
      have h2 := piecesF_len s q (s.size + 1 - ((0 : Int).toNat + 1)) ((0 : Int).toNat + 1)
      unfold piecesQ at h1 ⊢
      simp only [List.length_nil] at h1
      omega
    · simp
  · simp
theorem valueV_size (s : ByteArray) : (scalarP (valueV s)).1.str.size ≤ s.size := by
  unfold valueV
  split
  · rename_i v h
    obtain ⟨p, hp, rfl⟩ := assoc_mem h
    simp only [wordsL, List.mem_cons, List.not_mem_nil, or_false] at hp
    rcases hp with rfl | rfl | rfl | rfl | rfl | rfl | rfl | rfl | rfl <;> exact Nat.zero_le _
  · split
    · unfold numV
      split
      · split <;> exact Nat.zero_le _
      · exact Nat.zero_le _
    · exact Nat.le_refl _
theorem resolveP_size (s : ByteArray) : (resolveP s).1.str.size ≤ s.size := by
  unfold resolveP
  split
  · exact Nat.zero_le _
  · exact valueV_size s
theorem saidP_size {s : ByteArray} {x : Sc} (h : saidP s = some x) : x.str.size ≤ 4 * (s.size + 1) := by
  unfold saidP at h
  split at h
  · split at h
    · obtain rfl := Option.some.inj h
      show (⟨(readQ s 0).1.toArray⟩ : ByteArray).size ≤ _
      rw [Lib.size_eq, toList_mk]
      exact readQ_size s
    · cases h
  · split at h
    · obtain rfl := Option.some.inj h
      have := resolveP_size s
      omega
    · cases h

def boxS (k n : Int) (s : ByteArray) : Value := .agg #[.int .i64 k, .int .i64 n, .string s]
theorem mNull_any (k n : Int) (s : ByteArray) (w : World) : Calls Tryz.prog 28 #[boxS k n s] w fun e w' => e = .returned (.string ⟨#[110, 117, 108, 108]⟩) ∧ Below w.heap.size w w' := by
  unfold boxS
  go_enter Tryz.func28, Tryz.ntmps28
  go_wp2
  go_ret
  exact ⟨rfl, (Below.refl _ w).alloc (Nat.le_refl _) _⟩
theorem mTruth_any (k n : Int) (s : ByteArray) (w : World) : Calls Tryz.prog 29 #[boxS k n s] w fun e w' => e = .returned (.string (if n = 1 then ⟨#[116, 114, 117, 101]⟩ else ⟨#[102, 97, 108, 115, 101]⟩)) ∧ Below w.heap.size w w' := by
  unfold boxS
  by_cases h : n = 1
  · rw [if_pos h]
    have hb : ((n : Int) == 1) = true := by rw [beq_iff_eq]; exact h
    clear h
    go_enter Tryz.func29, Tryz.ntmps29
    go_wp2
    go_ret
    exact ⟨rfl, (Below.refl _ w).alloc (Nat.le_refl _) _⟩
  · rw [if_neg h]
    have hb : ((n : Int) == 1) = false := by rw [beq_eq_false_iff_ne]; exact h
    clear h
    go_enter Tryz.func29, Tryz.ntmps29
    go_wp2
    go_ret
    exact ⟨rfl, (Below.refl _ w).alloc (Nat.le_refl _) _⟩
theorem mNumber_any (k n : Int) (s : ByteArray) (w : World) (h0 : -999999999999999 ≤ n) (h1 : n ≤ 999999999999999) (hT : Tabs w) : Calls Tryz.prog 30 #[boxS k n s] w fun e w' => e = .returned (.string ⟨(itoa n).toArray⟩) ∧ Below w.heap.size w w' := by
  unfold boxS
  have hb0 : Below w.heap.size w (w.alloc (.cells #[.int .i64 k, .int .i64 n, .string s] 44)) := (Below.refl _ w).alloc (Nat.le_refl _) _
  have hT1 := hT.below hb0
  go_enter Tryz.func30, Tryz.ntmps30
  go_wp2_with fail
  refine (Tryz.strconv_Itoa n (by omega) (by omega) _ hT1.pow).mono ?_
  rintro e w' ⟨rfl, kk, os, rfl⟩
  go_wp2
  go_ret
  exact ⟨rfl, hb0.trans ((below_growN _ kk os).mono (by simp))⟩
theorem mText_any (k n : Int) (s : ByteArray) (w : World) (hs : s.size ≤ 100000) (hv : validD s.data.toList = true) (hT : Tabs w) : Calls Tryz.prog 31 #[boxS k n s] w fun e w' => e = .returned (.string ⟨(quoteP s.data.toList).toArray⟩) ∧ Below w.heap.size w w' := by
  unfold boxS
  have hb0 : Below w.heap.size w (w.alloc (.cells #[.int .i64 k, .int .i64 n, .string s] 44)) := (Below.refl _ w).alloc (Nat.le_refl _) _
  have hQ := fun wx hx => Quote_any s wx hs (hT.below hx)
  unfold quoteV at hQ
  rw [hv] at hQ
  simp only [if_true] at hQ
  clear hv
  go_enter Tryz.func31, Tryz.ntmps31
  go_wp2_with fail
  refine (hQ _ hb0).mono ?_
  rintro e w' ⟨rfl, hb⟩
  go_wp2
  go_ret
  exact ⟨rfl, hb0.trans (hb.mono (by simp))⟩

def textV (x : Sc) : Value := .tuple #[.string (textP x).1, .int .i64 (textP x).2]
set_option maxRecDepth 100000 in
set_option maxHeartbeats 2000000 in
theorem scText_any (x : Sc) (w : World) (hs : x.str.size ≤ 100000) (hT : Tabs w) :
    Calls Tryz.prog 14 #[scV x] w fun e w' => e = .returned (textV x) ∧ Below w.heap.size w w' := by
  unfold textV
  obtain ⟨k, n, s⟩ := x
  have hR := fun wx hx => plainRight_any k n s wx (by simp only at hs; omega) (hT.below hx)
  have hb0 : Below w.heap.size w (w.alloc (.cells #[.int .i64 k, .int .i64 n, .string s] 23)) := (Below.refl _ w).alloc (Nat.le_refl _) _
  unfold scV
  cases hr : rightP ⟨k, n, s⟩ with
  | false =>
    rw [hr] at hR
    rw [show textP ⟨k, n, s⟩ = (⟨#[]⟩, 60) by unfold textP; rw [hr]; rfl]
    clear hr
    go_enter Tryz.func14, Tryz.ntmps14
    go_wp2_with fail
    refine (hR _ hb0).mono ?_
    rintro e w' ⟨rfl, hb⟩
    go_wp2
    refine bodyPost_ret (v := .tuple #[.string ⟨#[]⟩, .int .i64 60]) (by simp [results, Tryz.results14, go_sem]) rfl ?_
    exact ⟨rfl, hb0.trans (hb.mono (by simp))⟩
  | true =>
    rw [hr] at hR
    rcases right_cases hr with h | h | h | ⟨m, h, h0, h1⟩ | ⟨t, h, hv⟩
    · simp only [sc0, Sc.mk.injEq] at h
      obtain ⟨rfl, rfl, rfl⟩ := h
      have HTX := hid (show textP ⟨0, 0, ⟨#[]⟩⟩ = ((⟨#[110, 117, 108, 108]⟩ : ByteArray), (0 : Int)) by unfold textP; rw [hr, if_pos rfl]; rfl)
      rw [HTX.out]
      clear hr HTX
      go_enter Tryz.func14, Tryz.ntmps14
      go_wp2_with fail
      refine (hR _ hb0).mono ?_
      rintro e w1 ⟨rfl, hb⟩
      have hk := heap_new _ _ hb
      obtain ⟨c0, c1, c2, f0, f1, f2⟩ := blk3 hk
      have hb1 : Below w.heap.size w w1 := hb0.trans (hb.mono (by simp))
      have hz1 : w.heap.size < w1.heap.size := by have := hb.size; simp at this; omega
      clear hk hb
      go_wp2_with fail
      refine ((mNull_any _ _ _ _)).mono ?_
      rintro e w2 ⟨rfl, hb2⟩
      have hb3 : Below w.heap.size w w2 := ((hb1.alloc (by omega) _).alloc (by simp; omega) _).trans (hb2.mono (by simp; omega))
      clear hb2
      go_wp2
      refine bodyPost_ret (v := .tuple #[.string (⟨#[110, 117, 108, 108]⟩ : ByteArray), .int .i64 0]) (by simp [results, Tryz.results14, go_sem]) rfl ?_
      exact ⟨rfl, hb3⟩
    · simp only [sc0, Sc.mk.injEq] at h
      obtain ⟨rfl, rfl, rfl⟩ := h
      have HTX := hid (show textP ⟨1, 1, ⟨#[]⟩⟩ = ((⟨#[116, 114, 117, 101]⟩ : ByteArray), (0 : Int)) by unfold textP; rw [hr, if_pos rfl]; rfl)
      rw [HTX.out]
      clear hr HTX
      go_enter Tryz.func14, Tryz.ntmps14
      go_wp2_with fail
      refine (hR _ hb0).mono ?_
      rintro e w1 ⟨rfl, hb⟩
      have hk := heap_new _ _ hb
      obtain ⟨c0, c1, c2, f0, f1, f2⟩ := blk3 hk
      have hb1 : Below w.heap.size w w1 := hb0.trans (hb.mono (by simp))
      have hz1 : w.heap.size < w1.heap.size := by have := hb.size; simp at this; omega
      clear hk hb
      go_wp2_with fail
      refine ((mTruth_any _ _ _ _)).mono ?_
      rintro e w2 ⟨rfl, hb2⟩
      have hb3 : Below w.heap.size w w2 := ((hb1.alloc (by omega) _).alloc (by simp; omega) _).trans (hb2.mono (by simp; omega))
      clear hb2
      go_wp2
      refine bodyPost_ret (v := .tuple #[.string (⟨#[116, 114, 117, 101]⟩ : ByteArray), .int .i64 0]) (by simp [results, Tryz.results14, go_sem]) rfl ?_
      exact ⟨rfl, hb3⟩
    · simp only [sc0, Sc.mk.injEq] at h
      obtain ⟨rfl, rfl, rfl⟩ := h
      have HTX := hid (show textP ⟨1, 0, ⟨#[]⟩⟩ = ((⟨#[102, 97, 108, 115, 101]⟩ : ByteArray), (0 : Int)) by unfold textP; rw [hr, if_pos rfl]; rfl)
      rw [HTX.out]
      clear hr HTX
      go_enter Tryz.func14, Tryz.ntmps14
      go_wp2_with fail
      refine (hR _ hb0).mono ?_
      rintro e w1 ⟨rfl, hb⟩
      have hk := heap_new _ _ hb
      obtain ⟨c0, c1, c2, f0, f1, f2⟩ := blk3 hk
      have hb1 : Below w.heap.size w w1 := hb0.trans (hb.mono (by simp))
      have hz1 : w.heap.size < w1.heap.size := by have := hb.size; simp at this; omega
      clear hk hb
      go_wp2_with fail
      refine ((mTruth_any _ _ _ _)).mono ?_
      rintro e w2 ⟨rfl, hb2⟩
      have hb3 : Below w.heap.size w w2 := ((hb1.alloc (by omega) _).alloc (by simp; omega) _).trans (hb2.mono (by simp; omega))
      clear hb2
      go_wp2
      refine bodyPost_ret (v := .tuple #[.string (⟨#[102, 97, 108, 115, 101]⟩ : ByteArray), .int .i64 0]) (by simp [results, Tryz.results14, go_sem]) rfl ?_
      exact ⟨rfl, hb3⟩
    · simp only [sc0, Sc.mk.injEq] at h
      obtain ⟨rfl, rfl, rfl⟩ := h
      have HTX := hid (show textP ⟨2, n, ⟨#[]⟩⟩ = ((⟨(itoa n).toArray⟩ : ByteArray), (0 : Int)) by unfold textP; rw [hr, if_pos rfl]; rfl)
      rw [HTX.out]
      clear hr HTX
      go_enter Tryz.func14, Tryz.ntmps14
      go_wp2_with fail
      refine (hR _ hb0).mono ?_
      rintro e w1 ⟨rfl, hb⟩
      have hk := heap_new _ _ hb
      obtain ⟨c0, c1, c2, f0, f1, f2⟩ := blk3 hk
      have hb1 : Below w.heap.size w w1 := hb0.trans (hb.mono (by simp))
      have hz1 : w.heap.size < w1.heap.size := by have := hb.size; simp at this; omega
      clear hk hb
      go_wp2_with fail
      refine ((mNumber_any _ _ _ _ h0 h1 (hT.below ((hb1.alloc (by omega) _).alloc (by simp; omega) _)))).mono ?_
      rintro e w2 ⟨rfl, hb2⟩
      have hb3 : Below w.heap.size w w2 := ((hb1.alloc (by omega) _).alloc (by simp; omega) _).trans (hb2.mono (by simp; omega))
      clear hb2
      go_wp2
      refine bodyPost_ret (v := .tuple #[.string (⟨(itoa n).toArray⟩ : ByteArray), .int .i64 0]) (by simp [results, Tryz.results14, go_sem]) rfl ?_
      exact ⟨rfl, hb3⟩
    · simp only [sc0, Sc.mk.injEq] at h
      obtain ⟨rfl, rfl, rfl⟩ := h
      have HTX := hid (show textP ⟨3, 0, s⟩ = ((⟨(quoteP s.data.toList).toArray⟩ : ByteArray), (0 : Int)) by unfold textP; rw [hr, if_pos rfl]; rfl)
      rw [HTX.out]
      clear hr HTX
      go_enter Tryz.func14, Tryz.ntmps14
      go_wp2_with fail
      refine (hR _ hb0).mono ?_
      rintro e w1 ⟨rfl, hb⟩
      have hk := heap_new _ _ hb
      obtain ⟨c0, c1, c2, f0, f1, f2⟩ := blk3 hk
      have hb1 : Below w.heap.size w w1 := hb0.trans (hb.mono (by simp))
      have hz1 : w.heap.size < w1.heap.size := by have := hb.size; simp at this; omega
      clear hk hb
      go_wp2_with fail
      refine ((mText_any _ _ _ _ hs hv (hT.below ((hb1.alloc (by omega) _).alloc (by simp; omega) _)))).mono ?_
      rintro e w2 ⟨rfl, hb2⟩
      have hb3 : Below w.heap.size w w2 := ((hb1.alloc (by omega) _).alloc (by simp; omega) _).trans (hb2.mono (by simp; omega))
      clear hb2
      go_wp2
      refine bodyPost_ret (v := .tuple #[.string (⟨(quoteP s.data.toList).toArray⟩ : ByteArray), .int .i64 0]) (by simp [results, Tryz.results14, go_sem]) rfl ?_
      exact ⟨rfl, hb3⟩

end Go.Proofs.YtkdhaipjfkalfaaGreatDoor
