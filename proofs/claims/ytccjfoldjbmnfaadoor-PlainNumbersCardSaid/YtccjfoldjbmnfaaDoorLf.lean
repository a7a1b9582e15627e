/- What is proved: the walk of PlainNumbers: it returns true at every number. -/
import Derived.Test.YtccjfoldjbmnfaaDoorPg
import Derived.Test.YtccjfoldjbmnfaaDoorLb
import Derived.Lib.ItoaLen
namespace Go.Proofs.YtccjfoldjbmnfaaDoor
open Go Go.RowKit Go.Lib
set_option linter.unusedSimpArgs false

def tenB : ByteArray := ⟨#[48, 49, 50, 51, 52, 53, 54, 55, 56, 57]⟩
theorem ten_at : ∀ j : Fin 10, tenB.extract j.val (j.val + 1) = ⟨#[UInt8.ofNat (48 + j.val)]⟩ := by decide +kernel
/-- What has been laid of a numeral, from the right. -/
def laidN (u m : Nat) (D : List UInt8) : Prop := (m = u ∧ D = []) ∨ (D ≠ [] ∧ ((m = 0 ∧ D = decDigits u) ∨ (0 < m ∧ decDigits m ++ D = decDigits u)))
theorem laidN_step {u m : Nat} {D : List UInt8} (h : laidN u m D) (hgo : 0 < m ∨ D = []) : laidN u (m / 10) (UInt8.ofNat (48 + m % 10) :: D) := by
  refine .inr ⟨by simp, ?_⟩
  have key : decDigits m ++ D = decDigits u := by
    rcases h with ⟨rfl, rfl⟩ | ⟨hne, ⟨h0, _⟩ | ⟨_, e⟩⟩
    · simp
    · rcases hgo with h1 | h1
      · omega
      · exact absurd h1 hne
    · exact e
  by_cases h10 : m < 10
  · refine .inl ⟨by omega, ?_⟩
    rw [dec_small h10] at key
    rw [Nat.mod_eq_of_lt h10, ← key]; rfl
  · refine .inr ⟨by omega, ?_⟩
    rw [dec_big h10] at key
    rw [← key, List.append_assoc]; rfl
theorem laidN_end {u : Nat} {D : List UInt8} (h : laidN u 0 D) (hne : D ≠ []) : D = decDigits u := by
  rcases h with ⟨_, rfl⟩ | ⟨_, ⟨_, e⟩ | ⟨h0, _⟩⟩
  · exact absurd rfl hne
  · exact e
  · omega

theorem laidN_len {u m : Nat} {D : List UInt8} (h : laidN u m D) (hu : u ≤ 99999999999999999) : D.length ≤ 20 := by
  have hd : (decDigits u).length ≤ 20 := by rw [decDigits_length]; exact nDigits_le20 u (by omega)
  rcases h with ⟨_, rfl⟩ | ⟨_, ⟨_, e⟩ | ⟨_, e⟩⟩
  · simp
  · rw [e]; exact hd
  · have := congrArg List.length e
    rw [List.length_append] at this
    omega

theorem wf_int {n : Int} (h : (Lit.int .i64 n).wf = true) : -9223372036854775808 ≤ n ∧ n ≤ 9223372036854775807 := by
  simp [Lit.wf, IntKind.min, IntKind.max, IntKind.bits, IntKind.signed] at h
  omega

theorem pair_of {α β : Type} {p : α × β} {b : β} (h : p.2 = b) : ∃ x, p = (x, b) := ⟨p.1, by rw [← h]⟩
theorem res4 (n : Int) (D sg : ByteArray) (hD : D.data.toList = decDigits n.natAbs) (hs : sg.data.toList = sgOf n) :
    (∃ x, resolveP ((sg ++ ⟨#[48]⟩) ++ D) = (x, 50)) ∧ (∃ x, resolveP ((⟨#[43]⟩ : ByteArray) ++ D) = (x, 50)) ∧ (∃ x, resolveP ((sg ++ D) ++ ⟨#[46, 48]⟩) = (x, 50)) ∧
    ((-999999999999999 ≤ n ∧ n ≤ 999999999999999) → resolveP (sg ++ D) = (⟨2, n, ⟨#[]⟩⟩, 0)) ∧ ((n < -999999999999999 ∨ 999999999999999 < n) → ∃ x, resolveP (sg ++ D) = (x, 50)) := by
  have e : ∀ (A : ByteArray) (l : List UInt8), A.data.toList = l → A = ⟨l.toArray⟩ := fun A l h => by rw [← h]
  rw [e ((sg ++ ⟨#[48]⟩) ++ D) (sgOf n ++ (48 :: decDigits n.natAbs)) (by simp [hD, hs]), e ((⟨#[43]⟩ : ByteArray) ++ D) (43 :: decDigits n.natAbs) (by simp [hD]),
    e ((sg ++ D) ++ ⟨#[46, 48]⟩) (sgOf n ++ (decDigits n.natAbs ++ [46, 48])) (by simp [hD, hs]), e (sg ++ D) (sgOf n ++ decDigits n.natAbs) (by simp [hD, hs])]
  exact ⟨pair_of (num_nought n), pair_of (num_plus _), pair_of (num_dot n), fun h => num_in n h.1 h.2, fun h => pair_of (num_out n h)⟩

set_option maxRecDepth 100000 in
set_option maxHeartbeats 2000000 in
theorem PlainNumbers_any (n : Int) (w : World) (hn : (Lit.int .i64 n).wf = true) (hT : Tabs w) :
    Calls Tryd.prog 5 #[.int .i64 n] w fun e w' => e = .returned (.bool true) ∧ Below w.heap.size w w' := by
  obtain ⟨b0, b1⟩ := wf_int hn
  clear hn
  go_enter Tryd.func5, Tryd.ntmps5
  go_wp2_with fail
  refine (shown_any _ hT).mono ?_
  rintro e w1 ⟨rfl, hs1⟩
  go_upto_if 19 with fail
  go_cut [5] from 18 (fun v wx => wx = w1 ∧ ((v = .int .i64 (-9223372036854775808) ∧ n = -9223372036854775808) ∨ v = .int .i64 (n.natAbs : Int)))
  case first =>
    by_cases hmin : n = -9223372036854775808
    · subst hmin
      go_wp2
      go_meet
      case rel => exact ⟨rfl, .inl ⟨by simp [wrap64], trivial⟩⟩
    · by_cases hneg : n < 0
      · go_wp2
        go_meet
        case rel => exact ⟨rfl, .inr (by rw [show (n.natAbs : Int) = -n by omega])⟩
      · go_wp2
        go_meet
        case rel => exact ⟨rfl, .inr (by rw [show (n.natAbs : Int) = n by omega])⟩
  case rest =>
  obtain ⟨rfl, ⟨rfl, rfl⟩ | rfl⟩ := hcut
  · go_wp2
    go_ret
    exact ⟨rfl, hs1⟩
  by_cases hbig : 99999999999999999 < (n.natAbs : Int)
  · have h0 : ¬ (n.natAbs : Int) < 0 := by omega
    go_wp2
    go_ret
    exact ⟨rfl, hs1⟩
  · have h0 : ¬ (n.natAbs : Int) < 0 := by omega
    obtain ⟨u, hu⟩ : ∃ u, n.natAbs = u := ⟨_, rfl⟩
    have HU := hid hu
    rw [hu] at hbig h0 ⊢
    clear hu
    have hub : u ≤ 99999999999999999 := by omega
    go_wp2
    go_loop [4, 5] (fun d k => ∃ (m : Nat) (D : ByteArray), k = .int .i64 m ∧ d = .string D ∧ m ≤ 99999999999999999 ∧ Hid (laidN u m D.data.toList) ∧ D.size ≤ 100) (fun d k => 2 * (intOf k).toNat + (if Lib.strSize d = 0 then 1 else 0))
    case atStart => exact ⟨u, ⟨#[]⟩, rfl, rfl, hub, hid (.inl ⟨rfl, rfl⟩), by decide⟩
    case round =>
      obtain ⟨m, D, rfl, rfl, hm, HL, hDs⟩ := hrel
      have HLE := hid (laidN_len HL.out hub)
      have step : ∀ (hgo : 0 < m ∨ D.data.toList = []), True := fun _ => trivial
      obtain ⟨c, hc⟩ : ∃ c, UInt8.ofNat (48 + m % 10) = c := ⟨_, rfl⟩
      have hlo : 0 ≤ (m : Int) % 10 := by omega
      have hhi : (m : Int) % 10 ≤ 9 := by omega
      have hsl : ∀ wx : World, (Instr.slice 9 (.string tenB) (some (.int .i64 ((m : Int) % 10))) (some (.int .i64 ((m : Int) % 10 + 1))) none).run Tryd.prog wx = .ok (.string ⟨#[c]⟩) wx := fun wx => by
        have h := run_slice_string (P := Tryd.prog) wx 9 tenB .i64 .i64 ((m : Int) % 10) ((m : Int) % 10 + 1) (by kernel_rfl) hlo (by omega) (by show _ ≤ (10 : Int); omega)
        rw [show ((m : Int) % 10).toNat = m % 10 by omega, show ((m : Int) % 10 + 1).toNat = m % 10 + 1 by omega, ten_at ⟨m % 10, by omega⟩] at h
        rw [← hc]; exact h
      unfold tenB at hsl
      obtain ⟨E, hE⟩ : ∃ E, (⟨#[c]⟩ : ByteArray) ++ D = E := ⟨_, rfl⟩
      have HE := hid (show E.data.toList = c :: D.data.toList by rw [← hE]; simp)
      have hEs : E.size = D.size + 1 := by rw [← hE, ByteArray.size_append]; show 1 + D.size = _; omega
      by_cases hm0 : 0 < m
      · have hmi : (0 : Int) < (m : Int) := by omega
        have HL' := hid (show laidN u (m / 10) E.data.toList by rw [HE.out, ← hc]; exact laidN_step HL.out (.inl hm0))
        have HEn := hid hEs
        clear hEs
        go_wp2
        go_round
        case rel => exact ⟨m / 10, E, by go_num, rfl, by omega, HL', by rw [HEn.out]; have := HLE.out; rw [← Lib.size_eq] at this; omega⟩
        case measure =>
          rw [Lib.strSize_string, Lib.strSize_string, if_neg (by rw [HEn.out]; omega)]
          simp only [intOf]
          omega
      · have hmi : ¬ (0 : Int) < (m : Int) := by omega
        by_cases hD : 0 < D.size
        · have he := isEmpty_false hD
          have HD := hid (laidN_end (by rw [show m = 0 by omega] at HL; exact HL.out) (by intro e; have := congrArg List.length e; rw [← Lib.size_eq] at this; simp only [List.length_nil] at this; omega) : D.data.toList = decDigits u)
          clear hsl HE hE HL HLE step
          by_cases hneg : n < 0
          · have hsg : (⟨#[45]⟩ : ByteArray).data.toList = sgOf n := by unfold sgOf; rw [if_pos hneg]
            obtain ⟨⟨x2, h2⟩, ⟨x3, h3⟩, ⟨x4, h4⟩, h1, h1'⟩ := res4 n D ⟨#[45]⟩ (by rw [HD.out, HU.out]) hsg
            obtain ⟨A1, hA1⟩ : ∃ A, (⟨#[45]⟩ : ByteArray) ++ D = A := ⟨_, rfl⟩
            obtain ⟨A2, hA2⟩ : ∃ A, ((⟨#[45]⟩ : ByteArray) ++ ⟨#[48]⟩) ++ D = A := ⟨_, rfl⟩
            obtain ⟨A3, hA3⟩ : ∃ A, (⟨#[43]⟩ : ByteArray) ++ D = A := ⟨_, rfl⟩
            obtain ⟨A4, hA4⟩ : ∃ A, A1 ++ (⟨#[46, 48]⟩ : ByteArray) = A := ⟨_, rfl⟩
            have z : (⟨#[45]⟩ : ByteArray).size = 1 := rfl
            have z48 : (⟨#[48]⟩ : ByteArray).size = 1 := rfl
            have z43 : (⟨#[43]⟩ : ByteArray).size = 1 := rfl
            have z46 : (⟨#[46, 48]⟩ : ByteArray).size = 2 := rfl
            have r2 := fun wx hx => Resolve_any A2 wx (by rw [← hA2, ByteArray.size_append, ByteArray.size_append, z, z48]; omega) hx
            have r3 := fun wx hx => Resolve_any A3 wx (by rw [← hA3, ByteArray.size_append, z43]; omega) hx
            have r4 := fun wx hx => Resolve_any A4 wx (by rw [← hA4, ByteArray.size_append, ← hA1, ByteArray.size_append, z, z46]; omega) hx
            have r1 := fun wx hx => Resolve_any A1 wx (by rw [← hA1, ByteArray.size_append, z]; omega) hx
            have hA1s : A1.size ≤ 200 := by rw [← hA1, ByteArray.size_append, z]; omega
            rw [hA1] at h1 h1' h4
            rw [hA4] at h4
            rw [hA2] at h2
            rw [hA3] at h3
            rw [h2] at r2
            rw [h3] at r3
            rw [h4] at r4
            simp only [scV] at r2 r3 r4
            clear z z48 z43 z46 h2 h3 h4 hsg hc hlo hhi hm HD HU hub h0 hbig
            by_cases hin : -999999999999999 ≤ n ∧ n ≤ 999999999999999
            · rw [h1 hin] at r1
              obtain ⟨i0, i1⟩ := hin
              simp only [scV] at r1
              clear h1 h1'
              go_wp2_with fail
              refine (r1 _ (hT.below hs1)).mono ?_
              clear r1
              rintro e w2 ⟨rfl, hb⟩
              have hs2 := below_step hs1 hb
              clear hb hs1
              go_wp2_with fail
              refine (r2 _ ((hT.below hs2).alloc _)).mono ?_
              clear r2
              rintro e w3 ⟨rfl, hb⟩
              obtain ⟨hA, hd⟩ := laid_call hb
              have hs3 := below_step hs2 hd
              clear hb hd hs2
              go_wp2_with fail
              refine (r3 _ ((hT.below hs3).alloc _)).mono ?_
              clear r3
              rintro e w4 ⟨rfl, hb⟩
              obtain ⟨_, hd⟩ := laid_call hb
              have hs4 := below_step hs3 hd
              have hA4' := heap_below hA hd
              clear hb hd hs3 hA
              go_wp2_with fail
              refine (r4 _ ((hT.below hs4).alloc _)).mono ?_
              clear r4
              rintro e w5 ⟨rfl, hb⟩
              obtain ⟨_, hd⟩ := laid_call hb
              have hs5 := below_step hs4 hd
              have hA5' := heap_below hA4' hd
              clear hb hd hs4 hA4'
              have hB : Blk w5 w2.heap.size ⟨2, n, ⟨#[]⟩⟩ := hA5'
              obtain ⟨a0, a1, a2⟩ : _ ∧ _ ∧ _ := ⟨hB.c0, hB.c1, hB.c2⟩
              have hz := cell_lt a0
              clear hB hA5'
              go_wp2
              go_ret
              exact ⟨rfl, hs5.alloc hs5.size _⟩
            · obtain ⟨x1, hx1⟩ := h1' (by omega)
              rw [hx1] at r1
              simp only [scV] at r1
              clear h1 h1' hx1
              go_wp2_with fail
              refine (r1 _ (hT.below hs1)).mono ?_
              clear r1
              rintro e w2 ⟨rfl, hb⟩
              have hs2 := below_step hs1 hb
              clear hb hs1
              go_wp2_with fail
              refine (r2 _ ((hT.below hs2).alloc _)).mono ?_
              clear r2
              rintro e w3 ⟨rfl, hb⟩
              obtain ⟨hA, hd⟩ := laid_call hb
              have hs3 := below_step hs2 hd
              clear hb hd hs2
              go_wp2_with fail
              refine (r3 _ ((hT.below hs3).alloc _)).mono ?_
              clear r3
              rintro e w4 ⟨rfl, hb⟩
              obtain ⟨_, hd⟩ := laid_call hb
              have hs4 := below_step hs3 hd
              have hA4' := heap_below hA hd
              clear hb hd hs3 hA
              go_wp2_with fail
              refine (r4 _ ((hT.below hs4).alloc _)).mono ?_
              clear r4
              rintro e w5 ⟨rfl, hb⟩
              obtain ⟨_, hd⟩ := laid_call hb
              have hs5 := below_step hs4 hd
              have hA5' := heap_below hA4' hd
              clear hb hd hs4 hA4'
              clear hA5'
              have ho : n < -999999999999999 := by omega
              go_wp2
              go_ret
              exact ⟨rfl, hs5.alloc hs5.size _⟩
          · have hsg : (⟨#[]⟩ : ByteArray).data.toList = sgOf n := by unfold sgOf; rw [if_neg hneg]
            obtain ⟨⟨x2, h2⟩, ⟨x3, h3⟩, ⟨x4, h4⟩, h1, h1'⟩ := res4 n D ⟨#[]⟩ (by rw [HD.out, HU.out]) hsg
            obtain ⟨A1, hA1⟩ : ∃ A, (⟨#[]⟩ : ByteArray) ++ D = A := ⟨_, rfl⟩
            obtain ⟨A2, hA2⟩ : ∃ A, ((⟨#[]⟩ : ByteArray) ++ ⟨#[48]⟩) ++ D = A := ⟨_, rfl⟩
            obtain ⟨A3, hA3⟩ : ∃ A, (⟨#[43]⟩ : ByteArray) ++ D = A := ⟨_, rfl⟩
            obtain ⟨A4, hA4⟩ : ∃ A, A1 ++ (⟨#[46, 48]⟩ : ByteArray) = A := ⟨_, rfl⟩
            have z : (⟨#[]⟩ : ByteArray).size = 0 := rfl
            have z48 : (⟨#[48]⟩ : ByteArray).size = 1 := rfl
            have z43 : (⟨#[43]⟩ : ByteArray).size = 1 := rfl
            have z46 : (⟨#[46, 48]⟩ : ByteArray).size = 2 := rfl
            have r2 := fun wx hx => Resolve_any A2 wx (by rw [← hA2, ByteArray.size_append, ByteArray.size_append, z, z48]; omega) hx
            have r3 := fun wx hx => Resolve_any A3 wx (by rw [← hA3, ByteArray.size_append, z43]; omega) hx
            have r4 := fun wx hx => Resolve_any A4 wx (by rw [← hA4, ByteArray.size_append, ← hA1, ByteArray.size_append, z, z46]; omega) hx
            have r1 := fun wx hx => Resolve_any A1 wx (by rw [← hA1, ByteArray.size_append, z]; omega) hx
            have hA1s : A1.size ≤ 200 := by rw [← hA1, ByteArray.size_append, z]; omega
            rw [hA1] at h1 h1' h4
            rw [hA4] at h4
            rw [hA2] at h2
            rw [hA3] at h3
            rw [h2] at r2
            rw [h3] at r3
            rw [h4] at r4
            simp only [scV] at r2 r3 r4
            clear z z48 z43 z46 h2 h3 h4 hsg hc hlo hhi hm HD HU hub h0 hbig
            by_cases hin : -999999999999999 ≤ n ∧ n ≤ 999999999999999
            · rw [h1 hin] at r1
              obtain ⟨i0, i1⟩ := hin
              simp only [scV] at r1
              clear h1 h1'
              go_wp2_with fail
              refine (r1 _ (hT.below hs1)).mono ?_
              clear r1
              rintro e w2 ⟨rfl, hb⟩
              have hs2 := below_step hs1 hb
              clear hb hs1
              go_wp2_with fail
              refine (r2 _ ((hT.below hs2).alloc _)).mono ?_
              clear r2
              rintro e w3 ⟨rfl, hb⟩
              obtain ⟨hA, hd⟩ := laid_call hb
              have hs3 := below_step hs2 hd
              clear hb hd hs2
              go_wp2_with fail
              refine (r3 _ ((hT.below hs3).alloc _)).mono ?_
              clear r3
              rintro e w4 ⟨rfl, hb⟩
              obtain ⟨_, hd⟩ := laid_call hb
              have hs4 := below_step hs3 hd
              have hA4' := heap_below hA hd
              clear hb hd hs3 hA
              go_wp2_with fail
              refine (r4 _ ((hT.below hs4).alloc _)).mono ?_
              clear r4
              rintro e w5 ⟨rfl, hb⟩
              obtain ⟨_, hd⟩ := laid_call hb
              have hs5 := below_step hs4 hd
              have hA5' := heap_below hA4' hd
              clear hb hd hs4 hA4'
              have hB : Blk w5 w2.heap.size ⟨2, n, ⟨#[]⟩⟩ := hA5'
              obtain ⟨a0, a1, a2⟩ : _ ∧ _ ∧ _ := ⟨hB.c0, hB.c1, hB.c2⟩
              have hz := cell_lt a0
              clear hB hA5'
              go_wp2
              go_ret
              exact ⟨rfl, hs5.alloc hs5.size _⟩
            · obtain ⟨x1, hx1⟩ := h1' (by omega)
              rw [hx1] at r1
              simp only [scV] at r1
              clear h1 h1' hx1
              go_wp2_with fail
              refine (r1 _ (hT.below hs1)).mono ?_
              clear r1
              rintro e w2 ⟨rfl, hb⟩
              have hs2 := below_step hs1 hb
              clear hb hs1
              go_wp2_with fail
              refine (r2 _ ((hT.below hs2).alloc _)).mono ?_
              clear r2
              rintro e w3 ⟨rfl, hb⟩
              obtain ⟨hA, hd⟩ := laid_call hb
              have hs3 := below_step hs2 hd
              clear hb hd hs2
              go_wp2_with fail
              refine (r3 _ ((hT.below hs3).alloc _)).mono ?_
              clear r3
              rintro e w4 ⟨rfl, hb⟩
              obtain ⟨_, hd⟩ := laid_call hb
              have hs4 := below_step hs3 hd
              have hA4' := heap_below hA hd
              clear hb hd hs3 hA
              go_wp2_with fail
              refine (r4 _ ((hT.below hs4).alloc _)).mono ?_
              clear r4
              rintro e w5 ⟨rfl, hb⟩
              obtain ⟨_, hd⟩ := laid_call hb
              have hs5 := below_step hs4 hd
              have hA5' := heap_below hA4' hd
              clear hb hd hs4 hA4'
              clear hA5'
              have ho : 999999999999999 < n := by omega
              have ho' : ¬ n < -999999999999999 := by omega
              go_wp2
              go_ret
              exact ⟨rfl, hs5.alloc hs5.size _⟩
        · have he := isEmpty_true hD
          have HL' := hid (show laidN u (m / 10) E.data.toList by rw [HE.out, ← hc]; exact laidN_step HL.out (.inr (by rw [eq_empty_of_size (show D.size = 0 by omega)])))
          have HEn := hid hEs
          clear hEs
          go_wp2
          go_round
          case rel => exact ⟨m / 10, E, by go_num, rfl, by omega, HL', by rw [HEn.out]; have := HLE.out; rw [← Lib.size_eq] at this; omega⟩
          case measure =>
            rw [Lib.strSize_string, Lib.strSize_string, if_neg (by rw [HEn.out]; omega), if_pos (by omega)]
            simp only [intOf]
            omega
end Go.Proofs.YtccjfoldjbmnfaaDoor
