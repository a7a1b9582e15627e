import Derived.Test.YtkdhaipjfkalfaaGreatDoorSl
/- What is proved: the reference for layer 6: Twice. -/
namespace Go.Proofs.YtkdhaipjfkalfaaGreatDoor
open Go Go.RowKit Go.Lib
set_option linter.unusedSimpArgs false
set_option linter.unusedVariables false

theorem get_sc {ts : List Sc} {k : Nat} (h : k < ts.length) : ts[k] = ts.getD k sc0 := by simp [List.getD, List.getElem?_eq_getElem h]
theorem mem_take {ts : List Sc} {j k : Nat} (hj : j < k) (hk : k < ts.length) (h : ts.getD k sc0 = ts.getD j sc0) : ts[k] ∈ ts.take k := by
  rw [get_sc hk, h, ← get_sc (show j < ts.length by omega)]
  rw [List.mem_iff_getElem]
  exact ⟨j, by rw [List.length_take]; omega, by simp⟩
theorem not_mem_take {ts : List Sc} {j : Nat} {x : Sc} (hj : j < ts.length) (h : x ∉ ts.take j) (h2 : ¬ x = ts.getD j sc0) : x ∉ ts.take (j + 1) := by
  rw [List.take_succ_eq_append_getElem hj, List.mem_append, List.mem_singleton, get_sc hj]
  exact fun k => k.elim h h2

set_option maxRecDepth 100000 in
set_option maxHeartbeats 4000000 in
theorem refTwice_any (v : Value) (ts : List Sc) (w : World) (hv : ScIn w v ts) (hl : ts.length ≤ 1000000) :
    Calls Tryz.prog 25 #[v] w fun e w' => e = .returned (.bool (dupL ts)) ∧ Below w.heap.size w w' := by
  obtain ⟨A, cap, rfl, hA⟩ := hv
  obtain ⟨n, hn⟩ : ∃ n, ts.length = n := ⟨_, rfl⟩
  rw [hn] at hA hl ⊢
  have HN := hid hn
  have HA := hid hA
  clear hn hA
  go_enter Tryz.func25, Tryz.ntmps25
  go_wp2
  go_loopw [3] (fun i wr => (∃ q, wr = w.drewN q) ∧ ∃ k : Nat, k ≤ n ∧ i = .int .i64 k ∧ Hid ((ts.take k).Nodup)) (fun i _ => n - (intOf i).toNat)
  case atStart => exact ⟨⟨0, rfl⟩, 0, by omega, rfl, hid List.nodup_nil⟩
  case round =>
    obtain ⟨⟨q0, rfl⟩, k, hk, rfl, HI⟩ := hrel
    by_cases hlt : k < n
    · obtain ⟨a, o, rfl, ha, a0, a1, a2⟩ := HA.out k hlt
      obtain ⟨⟨k1, p1, s1⟩, hx⟩ : ∃ x, ts.getD k sc0 = x := ⟨_, rfl⟩
      rw [hx] at a0 a1 a2
      have HX := hid hx
      clear hx
      have hki : (k : Int) < (n : Int) := by omega
      go_wp2
      go_loopw [4] (fun i wr => (∃ q, wr = w.drewN q) ∧ ∃ j : Nat, j ≤ k ∧ i = .int .i64 j ∧ Hid ((⟨k1, p1, s1⟩ : Sc) ∉ ts.take j)) (fun i _ => k - (intOf i).toNat)
      case atStart => exact ⟨⟨q0, rfl⟩, 0, by omega, rfl, hid (by simp)⟩
      case round =>
        obtain ⟨⟨q1, rfl⟩, j, hj, rfl, HJ⟩ := hrel
        by_cases hjk : j < k
        · obtain ⟨b, o2, hA2, hb, b0, b1, b2⟩ := HA.out j (by omega)
          obtain ⟨rfl, rfl⟩ : a = b ∧ o = o2 := by injection hA2 with h; injection h with h1 h2; exact ⟨h1, h2⟩
          obtain ⟨⟨k2, p2, s2⟩, hy⟩ : ∃ x, ts.getD j sc0 = x := ⟨_, rfl⟩
          rw [hy] at b0 b1 b2
          have HY := hid hy
          clear hy hA2
          have hjki : (j : Int) < (k : Int) := by omega
          have hjni : (j : Int) < (n : Int) := by omega
          obtain ⟨bb, hbb⟩ : ∃ bb, ((k1 : Int) == (k2 : Int) && ((p1 : Int) == (p2 : Int) && s1.toList == s2.toList)) = bb := ⟨_, rfl⟩
          have hE := fun wx => eql_sc k1 p1 k2 p2 s1 s2 wx
          rw [hbb] at hE
          have HB := hid (show decide ((⟨k1, p1, s1⟩ : Sc) = ⟨k2, p2, s2⟩) = bb from (sc_eq ⟨k1, p1, s1⟩ ⟨k2, p2, s2⟩).symm.trans hbb)
          clear hbb
          go_wp2
          go_quiet (fail)
          cases bb with
          | true =>
            have HD := hid (show dupL ts = true from dup_at (k := k) (by rw [HN.out]; exact hlt) (mem_take hjk (by rw [HN.out]; exact hlt) (by rw [HX.out, HY.out]; exact of_decide_eq_true HB.out)))
            go_wp2
            go_ret
            exact ⟨by rw [HD.out]; rfl, by first | exact below_drewN (below_drewN (Below.refl _ _)) | exact below_drewN (Below.refl _ _)⟩
          | false =>
            have HJ' := hid (not_mem_take (by rw [HN.out]; omega) HJ.out (by rw [HY.out]; exact of_decide_eq_false HB.out))
            go_wp2
            go_roundw
            case rel => exact ⟨⟨_, rfl⟩, j + 1, by omega, by go_num, HJ'⟩
            case measure => simp [intOf]; omega
        · have hjk' : j = k := by omega
          have HI' := hid (show (ts.take (k + 1)).Nodup from nodup_take (by rw [HN.out]; exact hlt) HI.out (by rw [get_sc (by rw [HN.out]; exact hlt), HX.out]; rw [← hjk']; exact HJ.out))
          have hjki : ¬ (j : Int) < (k : Int) := by omega
          clear hjk'
          go_wp2
          go_roundw
          case rel => exact ⟨⟨_, rfl⟩, k + 1, by omega, by go_num, HI'⟩
          case measure => simp [intOf]; omega
    · have HF := hid (show dupL ts = false from dup_none (by have := HI.out; rwa [show k = ts.length by rw [HN.out]; omega] at this))
      have hki : ¬ (k : Int) < (n : Int) := by omega
      go_wp2
      go_ret
      exact ⟨by rw [HF.out]; rfl, by first | exact below_drewN (Below.refl _ _) | exact Below.refl _ _⟩
end Go.Proofs.YtkdhaipjfkalfaaGreatDoor
