/- What is proved: the reference's Deep: how deep a tree is. -/
import Derived.Test.YtiinnnbpbnojgaaGreatDoorFap
namespace Go.Proofs.YtiinnnbpbnojgaaGreatDoor
open Go Go.RowKit Go.Lib
set_option linter.unusedSimpArgs false
set_option linter.unusedVariables false

def DeepP (t : Tr) : Prop := ∀ (tv : Value) (S : Nat → Prop) (w : World), TrIn w S t tv → Sm 1000000 t → deepTr t ≤ 1000 →
  Calls Tryz.prog 20 #[tv] w fun e w' => e = .returned (.int .i64 (deepTr t)) ∧ Below w.heap.size w w'
theorem deepTs_take : ∀ (ts : List Tr) (k : Nat), k < ts.length → deepTr.deepTs (ts.take (k + 1)) = max (deepTr.deepTs (ts.take k)) (deepTr (ts.getD k tr0))
  | [], k, h => by simp at h
  | t :: r, 0, _ => by simp [deepTs_cons, deepTs_nil]
  | t :: r, k + 1, h => by
    have := deepTs_take r k (by simpa using h)
    rw [List.take_succ_cons, List.take_succ_cons, deepTs_cons, deepTs_cons, this]
    simp only [List.getD_cons_succ]
    omega
theorem deepTs_le (ts : List Tr) (k : Nat) : deepTr.deepTs (ts.take k) ≤ deepTr.deepTs ts := by
  induction ts generalizing k with
  | nil => simp
  | cons t r ih =>
    cases k with
    | zero => simp [deepTs_nil]
    | succ k => rw [List.take_succ_cons, deepTs_cons, deepTs_cons]; have := ih k; omega
theorem deep_get : ∀ (ts : List Tr) (k : Nat), k < ts.length → deepTr (ts.getD k tr0) ≤ deepTr.deepTs ts
  | [], k, h => by simp at h
  | t :: r, 0, _ => by rw [deepTs_cons]; simp; omega
  | t :: r, k + 1, h => by
    have := deep_get r k (by simpa using h)
    rw [deepTs_cons]
    simp only [List.getD_cons_succ]
    omega

set_option maxRecDepth 100000 in
set_option maxHeartbeats 4000000 in
theorem deep_node (k0 : Int) (nm : ByteArray) (x : Sc) (ks : List Sc) (ts : List Tr) (hkids : ∀ i, i < ts.length → DeepP (ts.getD i tr0)) : DeepP (.mk k0 nm x ks ts) := by
  intro tv S w h hsm hdp
  rw [TrIn] at h
  unfold Sm at hsm
  obtain ⟨hks, hts, hsm⟩ := hsm
  have hdd : deepTr (.mk k0 nm x ks ts) = deepTr.deepTs ts + 1 := by rw [deepTr]
  rw [hdd] at hdp ⊢
  obtain ⟨kv, A, ca, rfl, hk1, _, ht⟩ := h
  obtain ⟨KA, kc, rfl, _⟩ := id hk1
  obtain ⟨xk, xn, xs⟩ := x
  dsimp only
  have hK : ∀ k, k < ts.length → ∃ (a o : Nat) (tv : Value), A = some ⟨a, o, none⟩ ∧ (∃ (kd : Int) (nm : ByteArray) (xk xn : Int) (xs : ByteArray) (KA : Option Addr) (kl kc : Nat) (A : Option Addr) (l c : Nat),
      tv = .agg #[.int .i64 kd, .string nm, .int .i64 xk, .int .i64 xn, .string xs, .slice KA kl kc, .slice A l c] ∧ w.cell? ⟨a, o + k * 7, none⟩ = some (.int .i64 kd) ∧ w.cell? ⟨a, o + k * 7 + 1, none⟩ = some (.string nm) ∧ w.cell? ⟨a, o + k * 7 + 2, none⟩ = some (.int .i64 xk) ∧
      w.cell? ⟨a, o + k * 7 + 3, none⟩ = some (.int .i64 xn) ∧ w.cell? ⟨a, o + k * 7 + 4, none⟩ = some (.string xs) ∧ w.cell? ⟨a, o + k * 7 + 5, none⟩ = some (.slice KA kl kc) ∧ w.cell? ⟨a, o + k * 7 + 6, none⟩ = some (.slice A l c)) ∧
      ∀ W, Below w.heap.size w W → Calls Tryz.prog 20 #[tv] W fun e w' => e = .returned (.int .i64 (deepTr (ts.getD k tr0))) ∧ Below W.heap.size W w' := fun k hk => by
    obtain ⟨a, o, tv, e1, h1, t1⟩ := ts_get ts 0 k hk ht
    rw [Nat.zero_add] at h1
    exact ⟨a, o, tv, e1, h1.form t1, fun W hW => hkids k hk tv S W (t1.below hW) (sm_get ts k hk hsm) (by have := deep_get ts k hk; omega)⟩
  obtain ⟨n, hn⟩ : ∃ n, ts.length = n := ⟨_, rfl⟩
  rw [hn] at hK hts ⊢
  have HN := hid hn
  obtain ⟨nk, hnk⟩ : ∃ n, ks.length = n := ⟨_, rfl⟩
  rw [hnk]
  clear ht hsm hkids hk1 hdd hn hnk
  go_enter Tryz.func20, Tryz.ntmps20
  go_wp2
  go_loopw [3, 4] (fun m i wr => Hid (Below w.heap.size w wr) ∧ wr.heap[w.heap.size]? = some (.cells #[.int .i64 k0, .string nm, .int .i64 xk, .int .i64 xn, .string xs, .slice KA nk kc, .slice A n ca] 30) ∧ ∃ (k d : Nat), k ≤ n ∧ i = .int .i64 k ∧ m = .int .i64 d ∧ d ≤ 1000 ∧ Hid (d = deepTr.deepTs (ts.take k))) (fun _ i _ => n - (intOf i).toNat)
  case atStart => exact ⟨hid ((Below.refl _ w).alloc (Nat.le_refl _) _), World.alloc_heap_new w _, 0, 0, by omega, rfl, rfl, by omega, hid (by rw [List.take_zero, deepTs_nil])⟩
  case round =>
    obtain ⟨HB, hbx, k, d, hk, rfl, rfl, hd, HD⟩ := hrel
    have x6 := (blk7 hbx).2.2.2.2.2.2.1
    by_cases hlt : k < n
    · obtain ⟨a, o, tv, rfl, ⟨k1, n1, y1, z1, s1, KA1, kl1, kc1, A1, l1, c1, rfl, a0, a1, a2, a3, a4, a5, a6⟩, hS⟩ := hK k hlt
      replace a0 := cell_below a0 HB.out
      replace a1 := cell_below a1 HB.out
      replace a2 := cell_below a2 HB.out
      replace a3 := cell_below a3 HB.out
      replace a4 := cell_below a4 HB.out
      replace a5 := cell_below a5 HB.out
      replace a6 := cell_below a6 HB.out
      have hki : (k : Int) < (n : Int) := by omega
      have hSw := hS wr HB.out
      have hdk1 := deep_get ts k (by rw [HN.out]; exact hlt)
      have hT := deepTs_take ts k (by rw [HN.out]; exact hlt)
      obtain ⟨dk, hdk⟩ : ∃ d, deepTr (ts.getD k tr0) = d := ⟨_, rfl⟩
      rw [hdk] at hSw hdk1 hT
      rw [← HD.out] at hT
      have HT := hid hT
      have hdk2 : dk ≤ 1000 := by omega
      have HBX := hid hbx
      clear hK hS hdk hdk1 hT hbx
      go_wp2_with fail
      refine hSw.mono ?_
      rintro e w3 ⟨rfl, hb3⟩
      have HB3 := hid (HB.out.trans (hb3.mono HB.out.size))
      have HBX3 := hid (heap_below HBX.out hb3)
      clear hSw hb3
      rcases Nat.lt_or_ge d dk with hm | hm
      · have e : max d dk = dk := by omega
        have hmi : (d : Int) < (dk : Int) := by omega
        go_wp2
        go_roundw
        case rel => exact ⟨HB3, HBX3.out, k + 1, dk, by omega, by go_num, (by congr 1; omega), hdk2, hid (by rw [HT.out, e])⟩
        case measure => simp [intOf]; omega
      · have e : max d dk = d := by omega
        have hmi : ¬ (d : Int) < (dk : Int) := by omega
        go_wp2
        go_roundw
        case rel => exact ⟨HB3, HBX3.out, k + 1, d, by omega, by go_num, (by congr 1; omega), hd, hid (by rw [HT.out, e])⟩
        case measure => simp [intOf]; omega
    · have hki : ¬ (k : Int) < (n : Int) := by omega
      have HE := hid (show d = deepTr.deepTs ts by rw [HD.out, List.take_of_length_le (by rw [HN.out]; omega)])
      go_wp2
      go_ret
      exact ⟨by rw [← HE.out]; rfl, HB.out⟩
mutual
theorem deep_eq : ∀ t : Tr, DeepP t
  | .mk k nm x ks ts => deep_node k nm x ks ts (deep_all ts)
theorem deep_all : ∀ (ts : List Tr) (i : Nat), i < ts.length → DeepP (ts.getD i tr0)
  | [], i, h => by simp at h
  | t :: r, 0, _ => deep_eq t
  | t :: r, i + 1, h => deep_all r i (by simpa using h)
end
end Go.Proofs.YtiinnnbpbnojgaaGreatDoor
