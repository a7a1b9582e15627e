import Derived.Test.YtkdhaipjfkalfaaGreatDoorSx
/- What is proved: slices.symMergeCmpFunc and stableCmpFunc at scalars, whole: what there was, in order. -/
namespace Go.Proofs.YtkdhaipjfkalfaaGreatDoor
open Go Go.Shelf Go.RowKit Go.Lib Go.Sort
set_option linter.unusedSimpArgs false
set_option linter.unusedVariables false
set_option linter.unusedSectionVars false
variable {P : Program} {k : Nat} {α : Type} [Inhabited α]

theorem symSE {a m b : Nat} (ham : a < m) (hmb : m < b) : a ≤ symStart a m b ∧ symStart a m b ≤ symEnd a m b ∧ symEnd a m b ≤ m ∧ symEnd a m b ≤ (a + b) / 2 ∧ (a + b) / 2 + m ≤ b + symStart a m b := by
  unfold symStart symEnd
  by_cases c : (a + b) / 2 < m
  · rw [if_pos c, if_pos c]; omega
  · rw [if_neg c, if_neg c]; omega
/-- What symMerge is owed, at its own calls. -/
def SymAt (P : Program) (enc : α → List Value) (k g : Nat) (cb : Array Value) (blk off cap : Nat) (cf : α → α → Int) (d0 : Array α) (w0 : World) (N : Nat) : Prop :=
  ∀ (a m b : Nat) (d : Array α) (w : World), b - a < N → d0.size = d.size → SWK enc k w0 blk off d w → a < m → m < b → b ≤ d.size → SortedIn (ltOf cf) a m d → SortedIn (ltOf cf) m b d →
    Calls P 104 #[.slice (some ⟨blk, off, none⟩) d.size cap, .int .i64 a, .int .i64 m, .int .i64 b, .func (.func g) #[] cb] w fun e w' => e = .returned (.tuple #[]) ∧ ∃ d', PermIn a b d d' ∧ SortedIn (ltOf cf) a b d' ∧ SWK enc k w0 blk off d' w'

set_option maxHeartbeats 8000000 in
set_option maxRecDepth 1000000 in
theorem symRec_any (L : SortP P k) (enc : α → List Value) (g : Nat) (cb : Array Value) (blk off cap : Nat) (cf : α → α → Int) (eg : ∀ args w, (callFunc g args).run P w = .ok (.enter g args) w) (a m b : Nat) (d0 d : Array α) (w0 w : World)
    (R : RowK enc k w0 blk off d0) (hcmp : CmpLays P g cb enc k cf blk off d0.size w0) (hO : SWO (ltOf cf)) (hs : d0.size = d.size) (S : SWK enc k w0 blk off d w)
    (IH : Aside (SymAt P enc k g cb blk off cap cf d0 w0 (b - a))) (ham : a + 1 < m) (hmb : m + 1 < b) (hb : b ≤ d.size) (hsz : d.size < 4611686018427387904) (hl : SortedIn (ltOf cf) a m d) (hr : SortedIn (ltOf cf) m b d) :
    Calls P 104 #[.slice (some ⟨blk, off, none⟩) d.size cap, .int .i64 a, .int .i64 m, .int .i64 b, .func (.func g) #[] cb] w fun e w' => e = .returned (.tuple #[]) ∧ ∃ d', PermIn a b d d' ∧ SortedIn (ltOf cf) a b d' ∧ SWK enc k w0 blk off d' w' := by
  have mixed := L.mixed; have aE := L.aE; have zE := L.zE; have t0 := L.t0; have a0 := L.a0; have z0 := L.z0; have v0 := L.v0; have t1 := L.t1; have a1 := L.a1; have z1 := L.z1; have v1 := L.v1; have t2 := L.t2; have a2 := L.a2; have z2 := L.z2; have v2 := L.v2; have t3 := L.t3; have a3 := L.a3; have z3 := L.z3; have v3 := L.v3; have t4 := L.t4; have a4 := L.a4; have z4 := L.z4; have v4 := L.v4; have t5 := L.t5; have a5 := L.a5; have z5 := L.z5; have v5 := L.v5
  have FG := L.fM
  have S0 : Aside (SWK enc k w0 blk off d w) := S
  have HC : Aside (CmpLays P g cb enc k cf blk off d0.size w0) := hcmp
  clear S hcmp
  have LL : Aside (SortP P k) := L
  have eR : ∀ args w, (callFunc 130 args).run P w = .ok (.enter 130 args) w := enters_of L.fR (by kernel_rfl) rfl
  have eM : ∀ args w, (callFunc 104 args).run P w = .ok (.enter 104 args) w := enters_of L.fM (by kernel_rfl) rfl
  have HO := hid hO
  have HR := hid (And.intro hl hr)
  clear hO hl hr
  obtain ⟨mid, hmid⟩ : ∃ z, (a + b) / 2 = z := ⟨_, rfl⟩
  obtain ⟨s0, hs0⟩ : ∃ z, symStart a m b = z := ⟨_, rfl⟩
  obtain ⟨e0, he0⟩ : ∃ z, symEnd a m b = z := ⟨_, rfl⟩
  have hse := symSE (a := a) (m := m) (b := b) (by omega) (by omega)
  rw [hs0, he0, hmid] at hse
  obtain ⟨hse1, hse2, hse3, hse4, hse5⟩ := hse
  have HZ := hid (And.intro hs0 (And.intro he0 hmid))
  have hbr : (mid < m → s0 + b = mid + m ∧ e0 = mid) ∧ (¬ mid < m → s0 = a ∧ e0 = m) := by
    rw [← hs0, ← he0]
    unfold symStart symEnd
    rw [hmid]
    constructor
    · intro h; rw [if_pos h, if_pos h]; omega
    · intro h; rw [if_neg h, if_neg h]; exact ⟨rfl, rfl⟩
  have hmz : a < mid ∧ mid < b := by omega
  have hmidz : ((a : Int) + (b : Int)) / 2 = (mid : Int) := by omega
  clear hs0 he0 hmid
  obtain ⟨p, hp⟩ : ∃ p : Nat → Bool, ∀ h, p h = !ltOf cf d[mid + m - 1 - h]! d[h]! := ⟨_, fun _ => rfl⟩
  have HP := hid hp
  clear hp
  go_enter FG, Tryz.ntmps104
  have rma : IntKind.i64.wrap ((m : Int) - (a : Int)) = (m : Int) - (a : Int) := by rw [IntKind.wrap_i64]; omega
  have hma : (((m : Int) - (a : Int)) == 1) = false := by rw [beq_eq_false_iff_ne]; omega
  have rbm : IntKind.i64.wrap ((b : Int) - (m : Int)) = (b : Int) - (m : Int) := by rw [IntKind.wrap_i64]; omega
  have hbm : (((b : Int) - (m : Int)) == 1) = false := by rw [beq_eq_false_iff_ne]; omega
  have rab : IntKind.i64.wrap ((a : Int) + (b : Int)) = (a : Int) + (b : Int) := by rw [IntKind.wrap_i64]; omega
  have rmm : IntKind.i64.wrap ((mid : Int) + (m : Int)) = (mid : Int) + (m : Int) := by rw [IntKind.wrap_i64]; omega
  have rm1 : IntKind.i64.wrap ((mid : Int) + (m : Int) - 1) = (mid : Int) + (m : Int) - 1 := by rw [IntKind.wrap_i64]; omega
  go_upto_if 140 with fail
  go_cut [20, 21] from 138 (fun s8 s9 wx => wx = w ∧ s8 = .int .i64 s0 ∧ s9 = .int .i64 e0)
  case first =>
    by_cases c : mid < m
    · have cz : (mid : Int) < (m : Int) := by omega
      have rnb : IntKind.i64.wrap ((mid : Int) + (m : Int) - (b : Int)) = (s0 : Int) := by rw [IntKind.wrap_i64]; have := hbr.1 c; omega
      have hbe : e0 = mid := (hbr.1 c).2
      have HBE := hid hbe
      clear hbr hbe
      go_wp2
      go_meet
      case rel => exact ⟨rfl, rfl, by rw [HBE.out]⟩
    · have cz : ¬ (mid : Int) < (m : Int) := by omega
      have HBE := hid (hbr.2 c)
      clear hbr
      go_wp2
      go_meet
      case rel => exact ⟨rfl, by rw [HBE.out.1], by rw [HBE.out.2]⟩
  case rest =>
  obtain ⟨rfl, rfl, rfl⟩ := hcut
  clear hbr hmidz rma hma rbm hbm rab
  go_wp2
  go_loopg [20, 21] (e0 - s0) (fun kx s8 s9 wr => ∃ (x y : Nat), s8 = .int .i64 x ∧ s9 = .int .i64 y ∧ s0 ≤ x ∧ x ≤ y ∧ y ≤ e0 ∧ y - x ≤ kx ∧ Aside (SWK enc k w0 blk off d wr) ∧ Hid (halves p x y = halves p s0 e0))
  case atStart => exact ⟨s0, e0, by first | rfl | (congr 1; omega), by first | rfl | (congr 1; omega), by omega, by omega, by omega, by omega, S0, rfl⟩
  case round =>
    clear S0
    obtain ⟨x, y, rfl, rfl, hlx, hxy, hyh, hkx, S1, HE⟩ := hrel
    by_cases hlt : x < y
    · have hltz : (x : Int) < (y : Int) := by omega
      have rxy : IntKind.i64.wrap ((x : Int) + (y : Int)) = (x : Int) + (y : Int) := by rw [IntKind.wrap_i64]; omega
      have hh : s0 ≤ (x + y) / 2 ∧ (x + y) / 2 < e0 ∧ x ≤ (x + y) / 2 ∧ (x + y) / 2 < y := by omega
      have rh1 : IntKind.i64.wrap (((x : Int) + (y : Int)) / 2 + 1) = ((x : Int) + (y : Int)) / 2 + 1 := by rw [IntKind.wrap_i64]; omega
      obtain ⟨q, hq⟩ : ∃ q, mid + m - 1 - (x + y) / 2 = q := ⟨_, rfl⟩
      have rq0 : IntKind.i64.wrap ((mid : Int) + (m : Int) - 1 - ((x : Int) + (y : Int)) / 2) = (q : Int) := by rw [IntKind.wrap_i64]; omega
      have hqb : m ≤ q ∧ q < b := by omega
      have HQ := hid hq
      clear hq
      cases hL : ltOf cf d[q]! d[(x + y) / 2]! with
      | true =>
        have ea9 : ((q : Int)).toNat = q := by omega
        have pa9 : (0 : Int) ≤ (q : Int) := by omega
        have ba9 : (q : Int) < (d.size : Int) := by omega
        have ra9 : IntKind.i64.wrap ((q : Int)) = (q : Int) := by rw [IntKind.wrap_i64]; omega
        have ec9 : (((x : Int) + (y : Int)) / 2).toNat = (x + y) / 2 := by omega
        have pc9 : (0 : Int) ≤ ((x : Int) + (y : Int)) / 2 := by omega
        have bc9 : ((x : Int) + (y : Int)) / 2 < (d.size : Int) := by omega
        have rc9 : IntKind.i64.wrap (((x : Int) + (y : Int)) / 2) = ((x : Int) + (y : Int)) / 2 := by rw [IntKind.wrap_i64]; omega
        obtain ⟨x9, hx9⟩ : ∃ zz, zz = d[q]! := ⟨_, rfl⟩
        obtain ⟨y9, hy9⟩ : ∃ zz, zz = d[(x + y) / 2]! := ⟨_, rfl⟩
        have l9a := S1.out.ld R (by omega) P (q) (by omega)
        have l9b := S1.out.ld R (by omega) P ((x + y) / 2) (by omega)
        rw [← hx9] at l9a
        rw [← hy9] at l9b
        have hc9 := S1.out.cmp HC.out (by omega) x9 y9
        have hv9 : cf x9 y9 < 0 := by rw [hx9, hy9]; exact of_decide_eq_true hL
        have hd9 : decide (cf x9 y9 < 0) = true := decide_eq_true hv9
        have HL := hid hL
        clear hL
        clear hx9 hy9
        go_wp2_with fail
        go_quiet_grown (first | (go_at_fn g; refine Calls.grown_of (hc9 _ _)))
        have S2 : Aside (SWK enc k w0 blk off d (grow (wr.drewN nq) osq)) := S1.out.grown nq osq
        clear l9a l9b hc9 S1
        generalize grow (wr.drewN nq) osq = w2 at S2 ⊢
        clear nq osq
        go_wp2
        go_roundg ((x + y) / 2 - x)
        case measure => omega
        case rel => exact ⟨x, (x + y) / 2, rfl, by first | go_num | (congr 1; omega), by omega, by omega, by omega, Nat.le_refl _, S2, (show Hid _ from by rw [← HE.out, halves_down hlt (by show _ = false; rw [HP.out]; first | (simp [HL.out]; done) | (rw [HQ.out]; simp [HL.out]; done))]; exact rfl)⟩
      | false =>
        have ea9 : ((q : Int)).toNat = q := by omega
        have pa9 : (0 : Int) ≤ (q : Int) := by omega
        have ba9 : (q : Int) < (d.size : Int) := by omega
        have ra9 : IntKind.i64.wrap ((q : Int)) = (q : Int) := by rw [IntKind.wrap_i64]; omega
        have ec9 : (((x : Int) + (y : Int)) / 2).toNat = (x + y) / 2 := by omega
        have pc9 : (0 : Int) ≤ ((x : Int) + (y : Int)) / 2 := by omega
        have bc9 : ((x : Int) + (y : Int)) / 2 < (d.size : Int) := by omega
        have rc9 : IntKind.i64.wrap (((x : Int) + (y : Int)) / 2) = ((x : Int) + (y : Int)) / 2 := by rw [IntKind.wrap_i64]; omega
        obtain ⟨x9, hx9⟩ : ∃ zz, zz = d[q]! := ⟨_, rfl⟩
        obtain ⟨y9, hy9⟩ : ∃ zz, zz = d[(x + y) / 2]! := ⟨_, rfl⟩
        have l9a := S1.out.ld R (by omega) P (q) (by omega)
        have l9b := S1.out.ld R (by omega) P ((x + y) / 2) (by omega)
        rw [← hx9] at l9a
        rw [← hy9] at l9b
        have hc9 := S1.out.cmp HC.out (by omega) x9 y9
        have hv9 : ¬ cf x9 y9 < 0 := by rw [hx9, hy9]; exact of_decide_eq_false hL
        have hd9 : decide (cf x9 y9 < 0) = false := decide_eq_false hv9
        have HL := hid hL
        clear hL
        clear hx9 hy9
        go_wp2_with fail
        go_quiet_grown (first | (go_at_fn g; refine Calls.grown_of (hc9 _ _)))
        have S2 : Aside (SWK enc k w0 blk off d (grow (wr.drewN nq) osq)) := S1.out.grown nq osq
        clear l9a l9b hc9 S1
        generalize grow (wr.drewN nq) osq = w2 at S2 ⊢
        clear nq osq
        go_wp2
        go_roundg (y - ((x + y) / 2 + 1))
        case measure => omega
        case rel => exact ⟨(x + y) / 2 + 1, y, by first | go_num | (congr 1; omega), rfl, by omega, by omega, by omega, Nat.le_refl _, S2, (show Hid _ from by rw [← HE.out, halves_up hlt (by show _ = true; rw [HP.out]; first | (simp [HL.out]; done) | (rw [HQ.out]; simp [HL.out]; done))]; exact rfl)⟩
    · have hltz : ¬ (x : Int) < (y : Int) := by omega
      have hxe : x = y := by omega
      subst hxe
      have HS := hid (show halves p s0 e0 = x by have h := HE.out; rw [halves_stop hlt] at h; exact h.symm)
      clear HE hlt hkx hxy
      have hsp := sym_split HO.out (a := a) (m := m) (b := b) (d := d) (by omega) (by omega) hb HR.out.1 HR.out.2
      have hsx : symAt (ltOf cf) a m b d = x := by
        unfold symAt
        rw [HZ.out.1, HZ.out.2.1, HZ.out.2.2, ← HS.out]
        exact congrArg (fun f => halves f s0 e0) (funext fun h => (HP.out h).symm)
      rw [hsx, HZ.out.2.2] at hsp
      obtain ⟨e, he⟩ : ∃ e, mid + m - x = e := ⟨_, rfl⟩
      rw [he] at hsp
      obtain ⟨k1, k2, k3, k4, k5, k6, hX⟩ := hsp
      obtain ⟨d1, hd1⟩ : ∃ d1, rotFrom m (m - x) (e - m) d = d1 := ⟨_, rfl⟩
      rw [hd1] at hX
      have hz1 : d1.size = d.size := hX.perm.1
      have HX := hid hX
      have HD1 := hid hd1
      have re : IntKind.i64.wrap ((mid : Int) + (m : Int) - (x : Int)) = (e : Int) := by rw [IntKind.wrap_i64]; omega
      clear hX hd1 hsx
      go_upto_region 39 with fail
      clear re he
      go_cut [185] from 178 (fun v wx => Aside (SWK enc k w0 blk off d wx) ∧ v = .bool (decide (x < m ∧ m < e)))
      case first =>
        by_cases c1 : x < m
        · have c1z : (x : Int) < (m : Int) := by omega
          by_cases c2 : m < e
          · have c2z : (m : Int) < (e : Int) := by omega
            have HB := hid (decide_eq_true (And.intro c1 c2))
            clear c1 c2
            go_wp2
            go_meet
            case rel => exact ⟨S1, by rw [HB.out]⟩
          · have c2z : ¬ (m : Int) < (e : Int) := by omega
            have HB := hid (decide_eq_false (p := x < m ∧ m < e) (fun h => c2 h.2))
            clear c1 c2
            go_wp2
            go_meet
            case rel => exact ⟨S1, by rw [HB.out]⟩
        · have c1z : ¬ (x : Int) < (m : Int) := by omega
          have HB := hid (decide_eq_false (p := x < m ∧ m < e) (fun h => c1 h.1))
          clear c1
          go_wp2
          go_meet
          case rel => exact ⟨S1, by rw [HB.out]⟩
      case rest =>
      clear S1
      obtain ⟨S1, rfl⟩ := hcut
      obtain ⟨bb, hbb⟩ : ∃ bb, decide (x < m ∧ m < e) = bb := ⟨_, rfl⟩
      rw [hbb]
      have HB := hid hbb
      clear hbb
      go_upto_if 185 with fail
      go_cut [] from 178 (fun wx => Aside (SWK enc k w0 blk off d1 wx))
      case first =>
        cases bb with
        | true =>
            have hbt := of_decide_eq_true HB.out
            obtain ⟨c1, c2⟩ := hbt
            have hcR := rotate_any LL.out enc g cb blk off cap x m e d0 d w0 wc R hs S1.out c1 c2 (by omega) hsz
            clear c1 c2
            rw [HD1.out] at hcR
            have HCR : Aside _ := hcR
            clear hcR S1
            go_wp2_with fail
            refine Calls.mono HCR.out ?_
            rintro e9 w' ⟨rfl, hS2⟩
            have S2 : Aside (SWK _ _ _ _ _ _ _) := hS2
            clear hS2
            go_wp2
            go_meet
            case rel => exact S2
        | false =>
            have hbf := of_decide_eq_false HB.out
            have hdd : d1 = d := by rw [← HD1.out, rotFrom, dif_pos (by omega)]
            have HDD := hid hdd
            clear hdd hbf
            go_wp2
            go_meet
            case rel => rw [HDD.out]; exact S1
      case rest =>
      clear S1
      have T1 : Aside (SWK enc k w0 blk off d1 wc) := hcut
      clear hcut
      go_upto_region 41 with fail
      go_cut [199] from 192 (fun v wx => Aside (SWK enc k w0 blk off d1 wx) ∧ v = .bool (decide (a < x ∧ x < mid)))
      case first =>
        by_cases c1 : a < x
        · have c1z : (a : Int) < (x : Int) := by omega
          by_cases c2 : x < mid
          · have c2z : (x : Int) < (mid : Int) := by omega
            have HB := hid (decide_eq_true (And.intro c1 c2))
            clear c1 c2
            go_wp2
            go_meet
            case rel => exact ⟨T1, by rw [HB.out]⟩
          · have c2z : ¬ (x : Int) < (mid : Int) := by omega
            have HB := hid (decide_eq_false (p := a < x ∧ x < mid) (fun h => c2 h.2))
            clear c1 c2
            go_wp2
            go_meet
            case rel => exact ⟨T1, by rw [HB.out]⟩
        · have c1z : ¬ (a : Int) < (x : Int) := by omega
          have HB := hid (decide_eq_false (p := a < x ∧ x < mid) (fun h => c1 h.1))
          clear c1
          go_wp2
          go_meet
          case rel => exact ⟨T1, by rw [HB.out]⟩
      case rest =>
      clear T1
      obtain ⟨T1, rfl⟩ := hcut
      obtain ⟨bb, hbb⟩ : ∃ bb, decide (a < x ∧ x < mid) = bb := ⟨_, rfl⟩
      rw [hbb]
      have HB := hid hbb
      clear hbb
      go_upto_if 199 with fail
      go_cut [] from 192 (fun wx => ∃ d2, Hid (PermIn a mid d1 d2 ∧ SortedIn (ltOf cf) a mid d2) ∧ Aside (SWK enc k w0 blk off d2 wx))
      case first =>
        cases bb with
        | true =>
            have hbt := of_decide_eq_true HB.out
            obtain ⟨c1, c2⟩ := hbt
            have hcR := IH.out a x mid d1 wc (by omega) (by omega) T1.out c1 c2 (by omega) HX.out.s1 HX.out.s2
            clear c1 c2
            rw [hz1] at hcR
            have HCR : Aside _ := hcR
            clear hcR T1
            go_wp2_with fail
            refine Calls.mono HCR.out ?_
            rintro e9 w' ⟨rfl, d2, q1, q2, q3⟩
            have Q : Hid _ := And.intro (And.intro q1 q2) q3
            clear q1 q2 q3
            go_wp2
            go_meet
            case rel => exact ⟨d2, Q.out.1, Q.out.2⟩
        | false =>
            go_wp2
            go_meet
            case rel => exact ⟨d1, ⟨permIn_refl _ _ _, sorted_of_empty HX.out.s1 HX.out.s2 (of_decide_eq_false HB.out) (by omega) (by omega)⟩, T1⟩
      case rest =>
      clear T1
      obtain ⟨d2, hq, T2⟩ := hcut
      have hz2 : d2.size = d.size := hq.1.1.trans hz1
      have s3 : SortedIn (ltOf cf) mid e d2 := fun i j hi hij hj => by
        rw [hq.1.2.1 i (.inr hi), hq.1.2.1 j (.inr (by omega))]; exact HX.out.s3 i j hi hij hj
      have s4 : SortedIn (ltOf cf) e b d2 := fun i j hi hij hj => by
        rw [hq.1.2.1 i (.inr (by omega)), hq.1.2.1 j (.inr (by omega))]; exact HX.out.s4 i j hi hij hj
      have S34 := hid (And.intro s3 s4)
      clear s3 s4
      have fin : ∀ d3, PermIn mid b d2 d3 → SortedIn (ltOf cf) mid b d3 → PermIn a b d d3 ∧ SortedIn (ltOf cf) a b d3 := fun d3 r1 r2 =>
        sym_join HO.out hb k1 k3 k4 k6 (by omega) (by omega) HX.out hq.1 hq.2 r1 r2
      have FIN := hid fin
      clear fin
      by_cases c1 : mid < e
      · by_cases c2 : e < b
        · have c1z : (mid : Int) < (e : Int) := by omega
          have c2z : (e : Int) < (b : Int) := by omega
          have hcR := IH.out mid e b d2 wc (by omega) (by omega) T2.out c1 c2 (by omega) S34.out.1 S34.out.2
          rw [hz2] at hcR
          have HCR : Aside _ := hcR
          clear hcR T2
          go_wp2_with fail
          refine Calls.mono HCR.out ?_
          rintro e9 w' ⟨rfl, d3, q1, q2, q3⟩
          have Q : Hid _ := And.intro (FIN.out d3 q1 q2) q3
          clear q1 q2 q3
          go_wp2
          go_end0
          exact ⟨rfl, d3, Q.out.1.1, Q.out.1.2, Q.out.2⟩
        · have c1z : (mid : Int) < (e : Int) := by omega
          have c2z : ¬ (e : Int) < (b : Int) := by omega
          go_wp2
          go_end0
          have q := FIN.out d2 (permIn_refl _ _ _) (sorted_of_empty S34.out.1 S34.out.2 (by omega) (by omega) (by omega))
          exact ⟨rfl, d2, q.1, q.2, T2.out⟩
      · have c1z : ¬ (mid : Int) < (e : Int) := by omega
        go_wp2
        go_end0
        have q := FIN.out d2 (permIn_refl _ _ _) (sorted_of_empty S34.out.1 S34.out.2 (by omega) (by omega) (by omega))
        exact ⟨rfl, d2, q.1, q.2, T2.out⟩


theorem symMerge_any (L : SortP P k) (enc : α → List Value) (g : Nat) (cb : Array Value) (blk off cap : Nat) (cf : α → α → Int) (eg : ∀ args w, (callFunc g args).run P w = .ok (.enter g args) w) (d0 : Array α) (w0 : World) (R : RowK enc k w0 blk off d0) (hcmp : CmpLays P g cb enc k cf blk off d0.size w0) (hO : SWO (ltOf cf)) (hsz : d0.size < 4611686018427387904) :
    ∀ N, SymAt P enc k g cb blk off cap cf d0 w0 N
  | 0 => fun a m b d w h => absurd h (Nat.not_lt_zero _)
  | N + 1 => fun a m b d w hN hs S ham hmb hb hl hr => by
    by_cases h1 : m = a + 1
    · exact symOneLeft_any L enc g cb blk off cap cf eg a m b d0 d w0 w R hcmp hO hs S h1 hmb hb (by omega) hr
    · by_cases h2 : b = m + 1
      · exact symOneRight_any L enc g cb blk off cap cf eg a m b d0 d w0 w R hcmp hO hs S (by omega) h2 hb (by omega) hl
      · have ih := symMerge_any L enc g cb blk off cap cf eg d0 w0 R hcmp hO hsz N
        exact symRec_any L enc g cb blk off cap cf eg a m b d0 d w0 w R hcmp hO hs S (fun a' m' b' d' w' h' => ih a' m' b' d' w' (by omega)) (by omega) (by omega) hb (by omega) hl hr

end Go.Proofs.YtkdhaipjfkalfaaGreatDoor
