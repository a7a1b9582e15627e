import Derived.Test.YtkdhaipjfkalfaaGreatDoorSy
import Derived.Handy
import Derived.Test.YtkdhaipjfkalfaaGreatDoorSu
import Derived.Deep.RegionHeld3
import Derived.Test.YtkdhaipjfkalfaaGreatDoorSv
import Derived.Shelf.SlLaysF0
/- What is proved: slices.stableCmpFunc at scalars: what there was, in order. -/
namespace Go.Proofs.YtkdhaipjfkalfaaGreatDoor
open Go Go.Shelf Go.RowKit Go.Lib Go.Sort
set_option linter.unusedSimpArgs false
set_option linter.unusedVariables false
set_option linter.unusedSectionVars false
variable {P : Program} {k : Nat} {α : Type} [Inhabited α]

/-- What the insertion sort is owed. -/
def InsAt (P : Program) (enc : α → List Value) (k g : Nat) (cb : Array Value) (blk off cap : Nat) (cf : α → α → Int) (d0 : Array α) (w0 : World) : Prop :=
  ∀ (a b : Nat) (d : Array α) (w : World), d0.size = d.size → SWK enc k w0 blk off d w → a ≤ b → b ≤ d.size →
    Calls P 103 #[.slice (some ⟨blk, off, none⟩) d.size cap, .int .i64 a, .int .i64 b, .func (.func g) #[] cb] w fun e w' => e = .returned (.tuple #[]) ∧ SWK enc k w0 blk off (Sort.insertionSort (ltOf cf) d a b) w'

set_option maxHeartbeats 8000000 in
set_option maxRecDepth 1000000 in
theorem stable_any (L : SortP P k) (enc : α → List Value) (g : Nat) (cb : Array Value) (blk off cap : Nat) (cf : α → α → Int) (eg : ∀ args w, (callFunc g args).run P w = .ok (.enter g args) w) (d0 d : Array α) (w0 w : World) (R : RowK enc k w0 blk off d0) (hcmp : CmpLays P g cb enc k cf blk off d0.size w0) (hO : SWO (ltOf cf)) (hs : d0.size = d.size) (S : SWK enc k w0 blk off d w)
    (hI : InsAt P enc k g cb blk off cap cf d0 w0) (hsz : d.size ≤ 1000000000) :
    Calls P 87 #[.slice (some ⟨blk, off, none⟩) d.size cap, .int .i64 d.size, .func (.func g) #[] cb] w fun e w' => e = .returned (.tuple #[]) ∧ ∃ d', PermIn 0 d.size d d' ∧ SortedIn (ltOf cf) 0 d.size d' ∧ SWK enc k w0 blk off d' w' := by
  have mixed := L.mixed; have aE := L.aE; have zE := L.zE; have t0 := L.t0; have a0 := L.a0; have z0 := L.z0; have v0 := L.v0; have t1 := L.t1; have a1 := L.a1; have z1 := L.z1; have v1 := L.v1; have t2 := L.t2; have a2 := L.a2; have z2 := L.z2; have v2 := L.v2; have t3 := L.t3; have a3 := L.a3; have z3 := L.z3; have v3 := L.v3; have t4 := L.t4; have a4 := L.a4; have z4 := L.z4; have v4 := L.v4; have t5 := L.t5; have a5 := L.a5; have z5 := L.z5; have v5 := L.v5
  have FG := L.fT
  have eI : ∀ args w, (callFunc 103 args).run P w = .ok (.enter 103 args) w := enters_of L.fI (by kernel_rfl) rfl
  have eM : ∀ args w, (callFunc 104 args).run P w = .ok (.enter 104 args) w := enters_of L.fM (by kernel_rfl) rfl
  have hM := fun N => symMerge_any L enc g cb blk off cap cf eg d0 w0 R hcmp hO (by omega) N
  have SM := hid hM
  have HI := hid hI
  have HO := hid hO
  have S0 : Aside (SWK enc k w0 blk off d w) := S
  clear S hcmp hI hM hO
  obtain ⟨n, hn⟩ : ∃ n, d.size = n := ⟨_, rfl⟩
  rw [hn] at hs hsz ⊢
  have HN := hid hn
  go_enter FG, Tryz.ntmps87
  go_wp2
  go_loopg [7, 8] n (fun kx s7 s8 wr => ∃ (a b q : Nat) (dk : Array α), s7 = .int .i64 a ∧ s8 = .int .i64 b ∧ (b ≤ a + 20 ∧ a + 20 ≤ b) ∧ a ≤ n ∧ n - a ≤ kx ∧ dk.size = n ∧ Aside (SWK enc k w0 blk off dk wr) ∧ Hid (PermIn 0 n d dk ∧ BlocksIn (ltOf cf) 20 0 a dk ∧ a = 20 * q))
  case atStart => exact ⟨0, 20, 0, d, rfl, rfl, by omega, by omega, by omega, hn, S0, permIn_refl _ _ _, blocks_none (hi := 0), rfl⟩
  case round =>
    clear S0 hn
    obtain ⟨a, b, q, dk, rfl, rfl, ⟨hba1, hba2⟩, han, hkx, hds, S1, HE⟩ := hrel
    by_cases hlt : b ≤ n
    · have hltz : (b : Int) ≤ (n : Int) := by omega
      have rb : IntKind.i64.wrap ((b : Int) + 20) = (b : Int) + 20 := by rw [IntKind.wrap_i64]; omega
      have hc := HI.out a b dk wr (by omega) S1.out (by omega) (by omega)
      rw [hds] at hc
      have hp := insertionSort_holds (lt := ltOf cf) HO.out dk a b (by omega) (by omega)
      have HP := hid hp
      clear hp
      have HCR : Aside _ := hc
      clear hc S1
      go_wp2_with fail
      refine Calls.mono HCR.out ?_
      rintro e9 w' ⟨rfl, q3⟩
      have S2 : Aside _ := q3
      clear q3
      go_wp2
      go_roundg (n - b)
      case measure => omega
      case rel => exact ⟨b, b + 20, q + 1, Sort.insertionSort (ltOf cf) dk a b, rfl, by first | rfl | go_num, by omega, hlt, Nat.le_refl _, HP.out.1.1.trans hds, S2, permIn_trans _ _ _ _ _ HE.out.1 (permIn_mono dk _ a b 0 n (by omega) hlt (by omega) HP.out.1), blocks_step (by decide) HE.out.2.1 HP.out.1 HP.out.2 HE.out.2.2, by have := HE.out.2.2; omega⟩
    · have hltz : ¬ (b : Int) ≤ (n : Int) := by omega
      have hc := HI.out a n dk wr (by omega) S1.out (by omega) (by omega)
      rw [hds] at hc
      have hp := insertionSort_holds (lt := ltOf cf) HO.out dk a n (by omega) (by omega)
      have hq : PermIn 0 n d (Sort.insertionSort (ltOf cf) dk a n) ∧ BlocksIn (ltOf cf) 20 0 n (Sort.insertionSort (ltOf cf) dk a n) := ⟨permIn_trans _ _ _ _ _ HE.out.1 (permIn_mono dk _ a n 0 n (by omega) (by omega) (by omega) hp.1), blocks_step (by decide) HE.out.2.1 hp.1 hp.2 HE.out.2.2⟩
      have hz := hp.1.1.trans hds
      have HCR : Aside _ := hc
      have HP := hid (And.intro hq hz)
      clear hc S1 hp hq hz
      go_wp2_with fail
      refine Calls.mono HCR.out ?_
      rintro e9 w' ⟨rfl, q3⟩
      have S2 : Aside _ := q3
      clear q3
      go_wp2
      go_loopg [6] (n - 20) (fun kx s6 wr => ∃ (bs : Nat) (dk : Array α), s6 = .int .i64 bs ∧ 20 ≤ bs ∧ n - bs ≤ kx ∧ dk.size = n ∧ Aside (SWK enc k w0 blk off dk wr) ∧ Hid (PermIn 0 n d dk ∧ BlocksIn (ltOf cf) bs 0 n dk))
      case atStart => exact ⟨20, _, rfl, by omega, by omega, HP.out.2, S2, HP.out.1⟩
      case round =>
        clear S2 HP HCR HE
        obtain ⟨bs, dk, rfl, hbs, hkx, hds, S1, HE⟩ := hrel
        by_cases hbn : bs < n
        · have hbz : (bs : Int) < (n : Int) := by omega
          have r2 : IntKind.i64.wrap (2 * (bs : Int)) = 2 * (bs : Int) := by rw [IntKind.wrap_i64]; omega
          have r3 : IntKind.i64.wrap ((bs : Int) * 2) = (bs : Int) * 2 := by rw [IntKind.wrap_i64]; omega
          go_wp2
          go_loopg [7, 8] n (fun kx s7 s8 wr => ∃ (a b q : Nat) (dk : Array α), s7 = .int .i64 a ∧ s8 = .int .i64 b ∧ (b ≤ a + 2 * bs ∧ a + 2 * bs ≤ b) ∧ a ≤ n ∧ n - a ≤ kx ∧ dk.size = n ∧ Aside (SWK enc k w0 blk off dk wr) ∧ Hid (PermIn 0 n d dk ∧ BlocksIn (ltOf cf) (2 * bs) 0 a dk ∧ BlocksIn (ltOf cf) bs a n dk ∧ a = bs * (2 * q)))
          case atStart => exact ⟨0, 2 * bs, 0, dk, rfl, by first | rfl | go_num, by omega, by omega, by omega, hds, S1, HE.out.1, blocks_none (hi := 0), HE.out.2, rfl⟩
          case round =>
            clear S1 HE hds
            obtain ⟨a, b, q, dk, rfl, rfl, ⟨hba1, hba2⟩, han, hkx, hds, S1, HE⟩ := hrel
            have rab : IntKind.i64.wrap ((a : Int) + (bs : Int)) = (a : Int) + (bs : Int) := by rw [IntKind.wrap_i64]; omega
            have l1 : ∀ y, a + bs ≤ n → y ≤ a + bs → SortedIn (ltOf cf) a y dk := fun y h hy => blocks_sorted (by omega) HE.out.2.2.1 (Nat.le_refl _) (by omega) HE.out.2.2.2 hy
            have l2 : ∀ y, y ≤ n → y ≤ a + bs + bs → SortedIn (ltOf cf) (a + bs) y dk := fun y h hy => blocks_sorted (q := 2 * q + 1) (by omega) HE.out.2.2.1 (by omega) (by omega) (by rw [HE.out.2.2.2, Nat.mul_add, Nat.mul_one]) hy
            by_cases hlt : b ≤ n
            · have hltz : (b : Int) ≤ (n : Int) := by omega
              have rb : IntKind.i64.wrap ((b : Int) + 2 * (bs : Int)) = (b : Int) + 2 * (bs : Int) := by rw [IntKind.wrap_i64]; omega
              have hc := SM.out (b - a + 1) a (a + bs) b dk wr (by omega) (by omega) S1.out (by omega) (by omega) (by omega) (l1 _ (by omega) (Nat.le_refl _)) (l2 _ (by omega) (by omega))
              rw [hds, show ((a + bs : Nat) : Int) = (a : Int) + (bs : Int) by omega] at hc
              have HCR : Aside _ := hc
              clear hc S1 l1 l2
              go_wp2_with fail
              refine Calls.mono HCR.out ?_
              rintro e9 w' ⟨rfl, d2, q1, q2, q3⟩
              have S2 : Aside _ := q3
              have HQ := hid (And.intro q1 q2)
              clear q1 q2 q3
              go_wp2
              go_roundg (n - b)
              case measure => omega
              case rel => exact ⟨b, b + 2 * bs, q + 1, d2, rfl, by first | rfl | go_num, by omega, hlt, Nat.le_refl _, HQ.out.1.1.trans hds, S2, permIn_trans _ _ _ _ _ HE.out.1 (permIn_mono dk _ a b 0 n (by omega) hlt (by omega) HQ.out.1), blocks_step (q := q) (by omega) HE.out.2.1 HQ.out.1 HQ.out.2 (by rw [HE.out.2.2.2, Nat.mul_left_comm, Nat.mul_assoc]), blocks_keep HE.out.2.2.1 HQ.out.1 (Nat.le_refl _) (by omega), (by rw [show b = a + 2 * bs by omega, HE.out.2.2.2, Nat.mul_add, Nat.mul_add, Nat.mul_one, Nat.mul_comm bs 2])⟩
            · have hltz : ¬ (b : Int) ≤ (n : Int) := by omega
              by_cases hmn : a + bs < n
              · have hmz : (a : Int) + (bs : Int) < (n : Int) := by omega
                have hc := SM.out (n - a + 1) a (a + bs) n dk wr (by omega) (by omega) S1.out (by omega) (by omega) (by omega) (l1 _ (by omega) (Nat.le_refl _)) (l2 _ (by omega) (by omega))
                rw [hds, show ((a + bs : Nat) : Int) = (a : Int) + (bs : Int) by omega] at hc
                have HCR : Aside _ := hc
                clear hc S1 l1 l2
                go_wp2_with fail
                refine Calls.mono HCR.out ?_
                rintro e9 w' ⟨rfl, d2, q1, q2, q3⟩
                have S2 : Aside _ := q3
                have HQ := hid (And.intro q1 q2)
                clear q1 q2 q3
                go_wp2
                go_roundg (n - 2 * bs)
                case measure => omega
                case rel => exact ⟨2 * bs, d2, by first | rfl | go_num | (congr 1; omega), by omega, Nat.le_refl _, HQ.out.1.1.trans hds, S2, permIn_trans _ _ _ _ _ HE.out.1 (permIn_mono dk _ a n 0 n (by omega) (Nat.le_refl _) (by omega) HQ.out.1), blocks_step (q := q) (by omega) HE.out.2.1 HQ.out.1 HQ.out.2 (by rw [HE.out.2.2.2, Nat.mul_left_comm, Nat.mul_assoc])⟩
              · have hmz : ¬ (a : Int) + (bs : Int) < (n : Int) := by omega
                have l3 : SortedIn (ltOf cf) a n dk := blocks_sorted (by omega) HE.out.2.2.1 (Nat.le_refl _) (Nat.le_refl _) HE.out.2.2.2 (by omega)
                have HL := hid l3
                clear l1 l2 l3
                go_wp2
                go_roundg (n - 2 * bs)
                case measure => omega
                case rel => exact ⟨2 * bs, dk, by first | rfl | go_num | (congr 1; omega), by omega, Nat.le_refl _, hds, S1, HE.out.1, blocks_step (q := q) (by omega) HE.out.2.1 (permIn_refl dk a n) HL.out (by rw [HE.out.2.2.2, Nat.mul_left_comm, Nat.mul_assoc])⟩
        · have hbz : ¬ (bs : Int) < (n : Int) := by omega
          go_wp2
          go_end0
          exact ⟨rfl, dk, HE.out.1, blocks_all HE.out.2 (by omega), S1.out⟩

end Go.Proofs.YtkdhaipjfkalfaaGreatDoor

/- What is proved: package scal's Compare: the order of scalars; it lays blocks of its own and turns nothing. -/
namespace Go.Proofs.YtkdhaipjfkalfaaGreatDoor
open Go Go.RowKit Go.Lib Go.Sort
set_option linter.unusedSimpArgs false
set_option linter.unusedVariables false

theorem isNaNi_any (a : Int) (w : World) : Calls Tryz.prog 60 #[.int .i64 a] w fun e w' => e = .returned (.bool false) ∧ w' = w := by
  go_enter Tryz.func60, Tryz.ntmps60
  go_wp2
  go_ret
  exact ⟨by simp, rfl⟩
theorem isNaNs_any (a : ByteArray) (w : World) : Calls Tryz.prog 61 #[.string a] w fun e w' => e = .returned (.bool false) ∧ w' = w := by
  go_enter Tryz.func61, Tryz.ntmps61
  go_wp2
  go_ret
  exact ⟨by simp, rfl⟩
theorem cmpi_any (a b : Int) (w : World) : Calls Tryz.prog 39 #[.int .i64 a, .int .i64 b] w fun e w' => e = .returned (.int .i64 (cmpI a b)) ∧ w' = w := by
  unfold cmpI
  rcases Int.lt_trichotomy a b with h | h | h
  · rw [if_pos h]
    go_enter Tryz.func39, Tryz.ntmps39
    go_wp2_with fail
    refine (isNaNi_any _ _).mono ?_
    rintro e w1 ⟨rfl, rfl⟩
    go_wp2_with fail
    refine (isNaNi_any _ _).mono ?_
    rintro e w1 ⟨rfl, rfl⟩
    go_wp2
    go_ret
    exact ⟨rfl, rfl⟩
  · subst h
    have h1 : ¬ a < a := by omega
    rw [if_neg h1, if_neg h1]
    go_enter Tryz.func39, Tryz.ntmps39
    go_wp2_with fail
    refine (isNaNi_any _ _).mono ?_
    rintro e w1 ⟨rfl, rfl⟩
    go_wp2_with fail
    refine (isNaNi_any _ _).mono ?_
    rintro e w1 ⟨rfl, rfl⟩
    go_wp2
    go_ret
    exact ⟨rfl, rfl⟩
  · have h1 : ¬ a < b := by omega
    rw [if_neg h1, if_pos h]
    go_enter Tryz.func39, Tryz.ntmps39
    go_wp2_with fail
    refine (isNaNi_any _ _).mono ?_
    rintro e w1 ⟨rfl, rfl⟩
    go_wp2_with fail
    refine (isNaNi_any _ _).mono ?_
    rintro e w1 ⟨rfl, rfl⟩
    go_wp2
    go_ret
    exact ⟨rfl, rfl⟩
theorem cmps_any (s t : ByteArray) (w : World) : Calls Tryz.prog 40 #[.string s, .string t] w fun e w' => e = .returned (.int .i64 (cmpL s.data.toList t.data.toList)) ∧ w' = w := by
  have hl1 := less_L s.data.toList t.data.toList
  have hl2 := less_L t.data.toList s.data.toList
  have hsym := good_L.sym s.data.toList t.data.toList
  have hr := good_L.rng s.data.toList t.data.toList
  have heq := good_L.eq s.data.toList t.data.toList
  obtain ⟨z, hz⟩ : ∃ z, cmpL s.data.toList t.data.toList = z := ⟨_, rfl⟩
  rw [hz] at hl1 hsym hr heq ⊢
  rw [hsym] at hl2
  clear hsym hz
  rw [← Lib.toList_data s, ← Lib.toList_data t] at hl1 hl2 heq
  rcases hr with rfl | rfl | rfl
  · have e1 : Op.bytesLess s.toList t.toList = true := hl1
    have e2 : Op.bytesLess t.toList s.toList = false := hl2
    have e3 : (s.toList == t.toList) = false := by rw [beq_eq_false_iff_ne]; intro h; exact absurd (heq.2 h) (by decide)
    have e4 : (t.toList == s.toList) = false := by rw [beq_eq_false_iff_ne]; intro h; exact absurd (heq.2 h.symm) (by decide)
    clear hl1 hl2 heq
    go_enter Tryz.func40, Tryz.ntmps40
    go_wp2_with fail
    refine (isNaNs_any _ _).mono ?_
    rintro e w1 ⟨rfl, rfl⟩
    go_wp2_with fail
    refine (isNaNs_any _ _).mono ?_
    rintro e w1 ⟨rfl, rfl⟩
    go_wp2
    go_ret
    exact ⟨rfl, rfl⟩
  · have e1 : Op.bytesLess s.toList t.toList = false := hl1
    have e2 : Op.bytesLess t.toList s.toList = false := hl2
    have e3 : (s.toList == t.toList) = true := by rw [beq_iff_eq]; exact heq.1 rfl
    have e4 : (t.toList == s.toList) = true := by rw [beq_iff_eq]; exact (heq.1 rfl).symm
    clear hl1 hl2 heq
    go_enter Tryz.func40, Tryz.ntmps40
    go_wp2_with fail
    refine (isNaNs_any _ _).mono ?_
    rintro e w1 ⟨rfl, rfl⟩
    go_wp2_with fail
    refine (isNaNs_any _ _).mono ?_
    rintro e w1 ⟨rfl, rfl⟩
    go_wp2
    go_ret
    exact ⟨rfl, rfl⟩
  · have e1 : Op.bytesLess s.toList t.toList = false := hl1
    have e2 : Op.bytesLess t.toList s.toList = true := hl2
    have e3 : (s.toList == t.toList) = false := by rw [beq_eq_false_iff_ne]; intro h; exact absurd (heq.2 h) (by decide)
    have e4 : (t.toList == s.toList) = false := by rw [beq_eq_false_iff_ne]; intro h; exact absurd (heq.2 h.symm) (by decide)
    clear hl1 hl2 heq
    go_enter Tryz.func40, Tryz.ntmps40
    go_wp2_with fail
    refine (isNaNs_any _ _).mono ?_
    rintro e w1 ⟨rfl, rfl⟩
    go_wp2_with fail
    refine (isNaNs_any _ _).mono ?_
    rintro e w1 ⟨rfl, rfl⟩
    go_wp2
    go_ret
    exact ⟨rfl, rfl⟩
/-- The first that is not nought. -/
def orL (a b c : Int) : Int := if a = 0 then (if b = 0 then c else b) else a
set_option maxRecDepth 100000 in
theorem or_any (k : Nat) (a b c : Int) (w : World) (h0 : w.cell? ⟨k, 0, none⟩ = some (.int .i64 a)) (h1 : w.cell? ⟨k, 1, none⟩ = some (.int .i64 b)) (h2 : w.cell? ⟨k, 2, none⟩ = some (.int .i64 c)) :
    Calls Tryz.prog 38 #[.slice (some ⟨k, 0, none⟩) 3 3] w fun e w' => e = .returned (.int .i64 (orL a b c)) ∧ w' = w := by
  unfold orL
  by_cases ha : a = 0
  · rw [if_pos ha]
    subst ha
    by_cases hb : b = 0
    · rw [if_pos hb]
      subst hb
      by_cases hc : c = 0
      · subst hc
        go_enter Tryz.func38, Tryz.ntmps38
        go_wp2
        go_rounds 4
        go_ret
        exact ⟨rfl, rfl⟩
      · have hcz : (c == 0) = false := by rw [beq_eq_false_iff_ne]; exact hc
        go_enter Tryz.func38, Tryz.ntmps38
        go_wp2
        go_rounds 3
        go_ret
        exact ⟨rfl, rfl⟩
    · rw [if_neg hb]
      have hbz : (b == 0) = false := by rw [beq_eq_false_iff_ne]; exact hb
      go_enter Tryz.func38, Tryz.ntmps38
      go_wp2
      go_rounds 2
      go_ret
      exact ⟨rfl, rfl⟩
  · rw [if_neg ha]
    have haz : (a == 0) = false := by rw [beq_eq_false_iff_ne]; exact ha
    go_enter Tryz.func38, Tryz.ntmps38
    go_wp2
    go_rounds 1
    go_ret
    exact ⟨rfl, rfl⟩
end Go.Proofs.YtkdhaipjfkalfaaGreatDoor

/- What is proved: package scal's Compare, at any two scalars: their order; blocks are laid, nothing is turned. -/
namespace Go.Proofs.YtkdhaipjfkalfaaGreatDoor
open Go Go.RowKit Go.Lib Go.Sort
set_option linter.unusedSimpArgs false
set_option linter.unusedVariables false

/-- Draws, and blocks laid behind. -/
def Gr (w W : World) : Prop := ∃ (q : Nat) (os : Array Obj), W = Sort.grow (w.drewN q) os
theorem Gr.refl (w : World) : Gr w w := ⟨0, #[], by
  show w = { w with heap := w.heap ++ #[] , drawn := w.drawn + 0 }
  simp⟩
theorem Gr.drew {w W : World} (h : Gr w W) : Gr w W.drew := by
  obtain ⟨q, os, rfl⟩ := h
  exact ⟨q + 1, os, rfl⟩
theorem Gr.alloc {w W : World} (h : Gr w W) (o : Obj) : Gr w (W.alloc o) := by
  obtain ⟨q, os, rfl⟩ := h
  refine ⟨q, os ++ #[o], ?_⟩
  show ({ w with heap := (w.heap ++ os).push o, drawn := w.drawn + q } : World) = { w with heap := w.heap ++ (os ++ #[o]), drawn := w.drawn + q }
  simp
theorem Gr.below {w W : World} (h : Gr w W) : Below w.heap.size w W := by
  obtain ⟨q, os, rfl⟩ := h
  exact below_growN w q os
theorem cell_new3 (W : World) (c : Array Value) (t : TypeId) (n j : Nat) (hn : W.heap.size = n) : (W.alloc (.cells c t)).cell? ⟨n, j, none⟩ = c[j]? := by
  subst hn
  have h : (W.alloc (.cells c t)).heap[W.heap.size]? = some (.cells c t) := World.alloc_heap_new W _
  unfold World.cell?
  rw [h]
  rfl
theorem orL_cmp (x y : Sc) : orL (cmpI x.kind y.kind) (cmpI x.num y.num) (cmpL x.str.data.toList y.str.data.toList) = cmpSc x y := rfl

set_option maxRecDepth 100000 in
set_option maxHeartbeats 2000000 in
theorem compare_any (x y : Sc) (w : World) :
    Calls Tryz.prog 18 #[scV x, scV y] w fun e w' => e = .returned (.int .i64 (cmpSc x y)) ∧ Gr w w' := by
  have he := sc_eq x y
  have hor := orL_cmp x y
  have hz : decide (x = y) = true → cmpSc x y = 0 := fun h => (good_Sc.eq x y).2 (of_decide_eq_true h)
  obtain ⟨z, hzz⟩ : ∃ z, cmpSc x y = z := ⟨_, rfl⟩
  rw [hzz] at hor hz ⊢
  obtain ⟨b, hb⟩ : ∃ b, decide (x = y) = b := ⟨_, rfl⟩
  rw [hb] at he hz
  obtain ⟨k1, n1, s1⟩ := x
  obtain ⟨k2, n2, s2⟩ := y
  have hE := fun wx => eql_sc k1 n1 k2 n2 s1 s2 wx
  simp only at he hor
  rw [he] at hE
  have HOR := hid hor
  have HZ := hid hz
  unfold scV
  clear hzz hb he hz hor
  cases b with
  | true =>
    go_enter Tryz.func18, Tryz.ntmps18
    go_wp2
    go_ret
    refine ⟨by rw [HZ.out trivial]; rfl, ?_⟩
    repeat (first | exact Gr.refl _ | refine Gr.alloc ?_ _ | refine Gr.drew ?_)
  | false =>
    go_enter Tryz.func18, Tryz.ntmps18
    go_wp2
    go_region_held3 (fun w' => w'.cell? ⟨w.heap.size, 0, none⟩ = some (.int .i64 k1) ∧ w'.cell? ⟨w.heap.size, 1, none⟩ = some (.int .i64 n1) ∧ w'.cell? ⟨w.heap.size, 2, none⟩ = some (.string s1) ∧ w'.cell? ⟨w.heap.size + 1, 0, none⟩ = some (.int .i64 k2) ∧ w'.cell? ⟨w.heap.size + 1, 1, none⟩ = some (.int .i64 n2) ∧ w'.cell? ⟨w.heap.size + 1, 2, none⟩ = some (.string s2)) (first | go_keep)
      (first
        | (go_at_call 39; refine (cmpi_any _ _ _).mono ?_; rintro e wz ⟨rfl, hw⟩; subst wz)
        | (go_at_call 40; refine (cmps_any _ _ _).mono ?_; rintro e wz ⟨rfl, hw⟩; subst wz)
        | (go_at_call 38; refine (or_any _ (cmpI k1 k2) (cmpI n1 n2) (cmpL s1.data.toList s2.data.toList) _ (cell_new3 _ _ _ _ _ (by simp)) (cell_new3 _ _ _ _ _ (by simp)) (cell_new3 _ _ _ _ _ (by simp))).mono ?_; rintro e wz ⟨rfl, hw⟩; subst wz))
    go_wp2
    go_ret
    refine ⟨by rw [HOR.out]; rfl, ?_⟩
    repeat (first | exact Gr.refl _ | refine Gr.alloc ?_ _ | refine Gr.drew ?_)
end Go.Proofs.YtkdhaipjfkalfaaGreatDoor

/- What is proved: slices.stableCmpFunc at scalars, by scal.Compare, at this program: what there was, in order. -/
namespace Go.Proofs.YtkdhaipjfkalfaaGreatDoor
open Go Go.Shelf Go.RowKit Go.Lib Go.Sort
set_option linter.unusedSimpArgs false
set_option linter.unusedVariables false

def laysF20_ren : Go.Shelf.Ren := ⟨fun | 20 => 103 | n => n, fun | 24 => 23 | 22 => 34 | 3 => 3 | 25 => 32 | 4 => 4 | 0 => 0 | n => n, fun | n => n⟩
theorem laysF20 : Go.Proofs.SlLaysF0.n20 Tryz.prog laysF20_ren := {
  mixed := by kernel_rfl
  f20 := ⟨Tryz.f103.name, by decide, Tryz.func103.trans (congrArg some (by kernel_rfl))⟩
  t0 := Tryz.underlying0
  a0 := Tryz.isAgg0
  z0 := Tryz.sizeOf0
  v0 := Tryz.zeroValue0
  t3 := Tryz.underlying3
  a3 := Tryz.isAgg3
  z3 := Tryz.sizeOf3
  v3 := Tryz.zeroValue3
  t4 := Tryz.underlying4
  a4 := Tryz.isAgg4
  z4 := Tryz.sizeOf4
  v4 := Tryz.zeroValue4
  t22 := Tryz.underlying34
  a22 := Tryz.isAgg34
  z22 := Tryz.sizeOf34
  v22 := Tryz.zeroValue34
  t25 := Tryz.underlying32
  a25 := Tryz.isAgg32
  z25 := Tryz.sizeOf32
  v25 := Tryz.zeroValue32 }
theorem cmpLays_sc (blk off size : Nat) (w : World) : CmpLays Tryz.prog 18 #[] scCells 3 cmpSc blk off size w := fun m os dk hs x y => compare_any x y _
theorem enters_cmp : ∀ args w, (callFunc 18 args).run Tryz.prog w = .ok (.enter 18 args) w := enters_of Tryz.func18 (by kernel_rfl) rfl
theorem rowK_sc {w : World} {blk off : Nat} {d : Array Sc} (hH : HoldsK scCells 3 w blk off d) (hb : blk < w.heap.size) : RowK scCells 3 w blk off d :=
  ⟨fun _ => rfl, fun x v hv => (by simp [scCells] at hv; rcases hv with rfl | rfl | rfl <;> rfl), hH, hb⟩
theorem insAt_sc (blk off cap : Nat) (d0 : Array Sc) (w0 : World) (R : RowK scCells 3 w0 blk off d0) (hsz : d0.size ≤ 1000000000) : InsAt Tryz.prog scCells 3 18 #[] blk off cap cmpSc d0 w0 := by
  intro a b d w hs S hab hb
  have hs' : (Sort.insertionSort (ltOf cmpSc) d a b).size = d.size := (insertionSort_holds (swo_of good_Sc) d a b hab hb).1.1
  refine (AnyQ.insertionSortCmpFunc laysF20 3 Tryz.isAgg23 Tryz.sizeOf23 scCells R.hk R.h1 cmpSc 18 #[] blk off cap a b d w enters_cmp (cmpLays_sc _ _ _ _) (S.holds R.hblk R.hH hs.symm) (S.lt R.hblk) hab hb (by omega)).mono ?_
  rintro e w' ⟨rfl, n, os, rfl⟩
  exact ⟨rfl, S.on R.hblk n _ os hs'⟩
/-- The stable sort, at a row of scalars. -/
theorem stable_sc (blk off cap : Nat) (d : Array Sc) (w : World) (hH : HoldsK scCells 3 w blk off d) (hb : blk < w.heap.size) (hsz : d.size ≤ 1000000000) :
    Calls Tryz.prog 87 #[.slice (some ⟨blk, off, none⟩) d.size cap, .int .i64 d.size, .func (.func 18) #[] #[]] w fun e w' =>
      e = .returned (.tuple #[]) ∧ ∃ d' : Array Sc, d'.toList = sortL cmpSc d.toList ∧ SWK scCells 3 w blk off d' w' := by
  have R := rowK_sc hH hb
  refine (stable_any sortP scCells _ _ blk off cap cmpSc enters_cmp d d w w R (cmpLays_sc _ _ _ _) (swo_of good_Sc) rfl (SWK.start hH) (insAt_sc blk off cap d w R hsz) hsz).mono ?_
  rintro e w' ⟨rfl, d', h1, h2, h3⟩
  exact ⟨rfl, d', sortL_of_array good_Sc h1 h2, h3⟩
end Go.Proofs.YtkdhaipjfkalfaaGreatDoor

/- What is proved: slices.SortStableFunc at scalars, at a row, and at none. -/
namespace Go.Proofs.YtkdhaipjfkalfaaGreatDoor
open Go Go.Shelf Go.RowKit Go.Lib Go.Sort
set_option linter.unusedSimpArgs false
set_option linter.unusedVariables false

theorem sortStable_row (blk off cap : Nat) (d : Array Sc) (w : World) (hH : HoldsK scCells 3 w blk off d) (hb : blk < w.heap.size) (hsz : d.size ≤ 1000000000) :
    Calls Tryz.prog 63 #[.slice (some ⟨blk, off, none⟩) d.size cap, .func (.func 18) #[] #[]] w fun e w' =>
      e = .returned (.tuple #[]) ∧ ∃ d' : Array Sc, d'.toList = sortL cmpSc d.toList ∧ SWK scCells 3 w blk off d' w' := by
  have h := stable_sc blk off cap d w hH hb hsz
  have HC : Aside _ := h
  clear h hH
  go_enter Tryz.func63, Tryz.ntmps63
  go_wp2_with fail
  refine Calls.mono HC.out ?_
  rintro e w' ⟨rfl, d', h1, h2⟩
  have H2 := hid (And.intro h1 h2)
  clear h1 h2
  go_wp2
  go_end0
  exact ⟨rfl, d', H2.out⟩
theorem insNone_any (v : Value) (w : World) : Calls Tryz.prog 103 #[.slice none 0 0, .int .i64 0, .int .i64 0, v] w fun e w' => e = .returned (.tuple #[]) ∧ w' = w := by
  go_enter Tryz.func103, Tryz.ntmps103
  go_wp2
  refine wp_loop_rounds 1 ?_
  rw [rounds_succ]
  go_wp2
  go_end0
  exact ⟨rfl, rfl⟩
theorem stableNone_any (v : Value) (w : World) : Calls Tryz.prog 87 #[.slice none 0 0, .int .i64 0, v] w fun e w' => e = .returned (.tuple #[]) ∧ w' = w := by
  go_enter Tryz.func87, Tryz.ntmps87
  go_wp2
  refine wp_loop_rounds 1 ?_
  rw [rounds_succ]
  go_wp2_with fail
  refine (insNone_any _ _).mono ?_
  rintro e w1 ⟨rfl, rfl⟩
  go_wp2
  refine wp_loop_rounds 1 ?_
  rw [rounds_succ]
  go_wp2
  go_end0
  exact ⟨rfl, rfl⟩
theorem sortStable_none (v : Value) (w : World) : Calls Tryz.prog 63 #[.slice none 0 0, v] w fun e w' => e = .returned (.tuple #[]) ∧ w' = w := by
  go_enter Tryz.func63, Tryz.ntmps63
  go_wp2_with fail
  refine (stableNone_any _ _).mono ?_
  rintro e w1 ⟨rfl, rfl⟩
  go_wp2
  go_end0
  exact ⟨rfl, rfl⟩
end Go.Proofs.YtkdhaipjfkalfaaGreatDoor
