import Derived.Test.YtkdhaipjfkalfaaGreatDoorBase
import Derived.Test.YtkdhaipjfkalfaaGreatDoorSt
import Derived.Shelf.SlSortCmp.KitK
import Derived.Shelf.SlGeneric
import Derived.Sort.WalkB2
import Derived.Sort.WalkB12
import Derived.Deep.LoopGhost
import Derived.Deep.CutRange
/- What is proved: slices' stable sort at scalars: swapRange, rotate, from a world of the sort's to a world of the sort's. -/
namespace Go.Proofs.YtkdhaipjfkalfaaGreatDoor
open Go Go.Shelf Go.RowKit Go.Lib Go.Sort
set_option linter.unusedSimpArgs false
set_option linter.unusedVariables false
set_option linter.unusedSectionVars false

/-- What these walks lean on of a program: five functions, their types. -/
structure SortP (P : Program) (k : Nat) : Prop where
  mixed : P.follows .mixedOrders = true
  aE : ∀ w, (isAgg 23).run P w = .ok true w
  zE : ∀ w, (Go.sizeOf 23).run P w = .ok k w
  fW : P.funcs[151]? = some Tryz.f151
  fR : P.funcs[130]? = some Tryz.f130
  fM : P.funcs[104]? = some Tryz.f104
  fT : P.funcs[87]? = some Tryz.f87
  fI : P.funcs[103]? = some Tryz.f103
  t0 : P.underlying 0 = some (TypeDesc.tuple #[])
  a0 : ∀ w, (isAgg 0).run P w = .ok false w
  z0 : ∀ w, (Go.sizeOf 0).run P w = .ok 1 w
  v0 : ∀ w, (zeroValue 0).run P w = .ok (Value.tuple #[]) w
  t1 : P.underlying 3 = some (TypeDesc.int IntKind.i64)
  a1 : ∀ w, (isAgg 3).run P w = .ok false w
  z1 : ∀ w, (Go.sizeOf 3).run P w = .ok 1 w
  v1 : ∀ w, (zeroValue 3).run P w = .ok (Value.int IntKind.i64 0) w
  t2 : P.underlying 4 = some (TypeDesc.bool)
  a2 : ∀ w, (isAgg 4).run P w = .ok false w
  z2 : ∀ w, (Go.sizeOf 4).run P w = .ok 1 w
  v2 : ∀ w, (zeroValue 4).run P w = .ok (Value.bool false) w
  t3 : P.underlying 95 = some (TypeDesc.int IntKind.u64)
  a3 : ∀ w, (isAgg 95).run P w = .ok false w
  z3 : ∀ w, (Go.sizeOf 95).run P w = .ok 1 w
  v3 : ∀ w, (zeroValue 95).run P w = .ok (Value.int IntKind.u64 0) w
  t4 : P.underlying 34 = some (TypeDesc.slice 23)
  a4 : ∀ w, (isAgg 34).run P w = .ok false w
  z4 : ∀ w, (Go.sizeOf 34).run P w = .ok 1 w
  v4 : ∀ w, (zeroValue 34).run P w = .ok (Value.slice none 0 0) w
  t5 : P.underlying 32 = some (TypeDesc.func #[23, 23] #[3] false)
  a5 : ∀ w, (isAgg 32).run P w = .ok false w
  z5 : ∀ w, (Go.sizeOf 32).run P w = .ok 1 w
  v5 : ∀ w, (zeroValue 32).run P w = .ok (Value.nilFunc) w
theorem sortP : SortP Tryz.prog 3 := {
  mixed := by kernel_rfl
  aE := Tryz.isAgg23
  zE := Tryz.sizeOf23
  fW := Tryz.func151
  fR := Tryz.func130
  fM := Tryz.func104
  fT := Tryz.func87
  fI := Tryz.func103
  t0 := Tryz.underlying0
  a0 := Tryz.isAgg0
  z0 := Tryz.sizeOf0
  v0 := Tryz.zeroValue0
  t1 := Tryz.underlying3
  a1 := Tryz.isAgg3
  z1 := Tryz.sizeOf3
  v1 := Tryz.zeroValue3
  t2 := Tryz.underlying4
  a2 := Tryz.isAgg4
  z2 := Tryz.sizeOf4
  v2 := Tryz.zeroValue4
  t3 := Tryz.underlying95
  a3 := Tryz.isAgg95
  z3 := Tryz.sizeOf95
  v3 := Tryz.zeroValue95
  t4 := Tryz.underlying34
  a4 := Tryz.isAgg34
  z4 := Tryz.sizeOf34
  v4 := Tryz.zeroValue34
  t5 := Tryz.underlying32
  a5 := Tryz.isAgg32
  z5 := Tryz.sizeOf32
  v5 := Tryz.zeroValue32 }

variable {P : Program} {k : Nat} {α : Type} [Inhabited α]
set_option maxHeartbeats 4000000 in
set_option maxRecDepth 1000000 in
theorem swapRange_any (L : SortP P k) (enc : α → List Value) (g : Nat) (cb : Array Value) (blk off cap : Nat) (a b n : Nat) (d0 d : Array α) (w0 w : World)
    (R : RowK enc k w0 blk off d0) (hs : d0.size = d.size) (S : SWK enc k w0 blk off d w) (hab : a + n ≤ b) (hb : b + n ≤ d.size) (hsz : d.size < 4611686018427387904) :
    Calls P 151 #[.slice (some ⟨blk, off, none⟩) d.size cap, .int .i64 a, .int .i64 b, .int .i64 n, .func (.func g) #[] cb] w fun e w' => e = .returned (.tuple #[]) ∧ SWK enc k w0 blk off (swapR a b n d) w' := by
  have mixed := L.mixed; have aE := L.aE; have zE := L.zE; have t0 := L.t0; have a0 := L.a0; have z0 := L.z0; have v0 := L.v0; have t1 := L.t1; have a1 := L.a1; have z1 := L.z1; have v1 := L.v1; have t2 := L.t2; have a2 := L.a2; have z2 := L.z2; have v2 := L.v2; have t3 := L.t3; have a3 := L.a3; have z3 := L.z3; have v3 := L.v3; have t4 := L.t4; have a4 := L.a4; have z4 := L.z4; have v4 := L.v4; have t5 := L.t5; have a5 := L.a5; have z5 := L.z5; have v5 := L.v5
  have FG := L.fW
  have S0 : Aside (SWK enc k w0 blk off d w) := S
  clear S
  go_enter FG, Tryz.ntmps151
  go_wp2
  go_loopg [10] n (fun kx s8 wr => ∃ (i : Nat) (dk : Array α), s8 = .int .i64 i ∧ i ≤ n ∧ n - i ≤ kx ∧ dk.size = d.size ∧ Aside (SWK enc k w0 blk off dk wr) ∧ Hid (swapFrom a b n i dk = swapFrom a b n 0 d))
  case atStart => exact ⟨0, d, rfl, by omega, by omega, rfl, S0, rfl⟩
  case round =>
    clear S0
    obtain ⟨i, dk, rfl, hin, hkx, hds, S1, HE⟩ := hrel
    by_cases hlt : i < n
    · have hltz : (i : Int) < (n : Int) := by omega
      go_wp2_with fail
      have ea31 : ((a : Int) + (i : Int)).toNat = a + i := by omega
      have pa31 : (0 : Int) ≤ (a : Int) + (i : Int) := by omega
      have ba31 : (a : Int) + (i : Int) < (d.size : Int) := by omega
      have ra31 : IntKind.i64.wrap ((a : Int) + (i : Int)) = (a : Int) + (i : Int) := by rw [IntKind.wrap_i64]; omega
      have ec31 : ((b : Int) + (i : Int)).toNat = b + i := by omega
      have pc31 : (0 : Int) ≤ (b : Int) + (i : Int) := by omega
      have bc31 : (b : Int) + (i : Int) < (d.size : Int) := by omega
      have rc31 : IntKind.i64.wrap ((b : Int) + (i : Int)) = (b : Int) + (i : Int) := by rw [IntKind.wrap_i64]; omega
      have S2 : Aside (SWK enc k w0 blk off (swp dk (a + i) (b + i)) ((wr.drew.setCells blk (off + (a + i) * k) (enc dk[b + i]!)).setCells blk (off + (b + i) * k) (enc dk[a + i]!))) := S1.out.swapped R (a + i) (b + i) (by omega) (by omega)
      have l31a := S1.out.ld1 R (by omega) P (a + i) (by omega)
      have l31b := S1.out.ld1 R (by omega) P (b + i) (by omega)
      have s31a := S1.out.st1 R (by omega) P (a + i) (by omega) dk[b + i]!
      have s31b := S1.out.st2 R (by omega) P (a + i) (b + i) (by omega) (by omega) dk[b + i]! dk[a + i]!
      have n31a : (enc dk[a + i]!).length = k := R.hk _
      have n31b : (enc dk[b + i]!).length = k := R.hk _
      generalize enc dk[a + i]! = cI31 at S2 l31a s31b n31a
      generalize enc dk[b + i]! = cJ31 at S2 l31b s31a s31b n31b
      clear S1
      go_wp2_with fail
      go_big_region_o
      clear l31a l31b s31a s31b
      generalize (wr.drew.setCells blk (off + (a + i) * k) cJ31).setCells blk (off + (b + i) * k) cI31 = w31 at S2 ⊢
      go_wp2
      go_roundg (n - (i + 1))
      case measure => omega
      case rel => exact ⟨i + 1, swp dk (a + i) (b + i), by go_num, by omega, Nat.le_refl _, by rw [size_swp]; exact hds, S2, (show Hid _ from by rw [← HE.out, swapFrom_go _ _ _ _ _ hlt]; exact rfl)⟩
    · have hltz : ¬ (i : Int) < (n : Int) := by omega
      go_wp2
      go_end0
      refine ⟨rfl, ?_⟩
      have := HE.out
      rw [swapFrom_stop _ _ _ _ _ hlt] at this
      unfold swapR
      rw [← this]
      exact S1.out

set_option maxHeartbeats 4000000 in
set_option maxRecDepth 1000000 in
theorem rotate_any (L : SortP P k) (enc : α → List Value) (g : Nat) (cb : Array Value) (blk off cap : Nat) (a m b : Nat) (d0 d : Array α) (w0 w : World)
    (R : RowK enc k w0 blk off d0) (hs : d0.size = d.size) (S : SWK enc k w0 blk off d w) (ham : a < m) (hmb : m < b) (hb : b ≤ d.size) (hsz : d.size < 4611686018427387904) :
    Calls P 130 #[.slice (some ⟨blk, off, none⟩) d.size cap, .int .i64 a, .int .i64 m, .int .i64 b, .func (.func g) #[] cb] w fun e w' => e = .returned (.tuple #[]) ∧ SWK enc k w0 blk off (rotFrom m (m - a) (b - m) d) w' := by
  have mixed := L.mixed; have aE := L.aE; have zE := L.zE; have t0 := L.t0; have a0 := L.a0; have z0 := L.z0; have v0 := L.v0; have t1 := L.t1; have a1 := L.a1; have z1 := L.z1; have v1 := L.v1; have t2 := L.t2; have a2 := L.a2; have z2 := L.z2; have v2 := L.v2; have t3 := L.t3; have a3 := L.a3; have z3 := L.z3; have v3 := L.v3; have t4 := L.t4; have a4 := L.a4; have z4 := L.z4; have v4 := L.v4; have t5 := L.t5; have a5 := L.a5; have z5 := L.z5; have v5 := L.v5
  have FG := L.fR
  have eW : ∀ args w, (callFunc 151 args).run P w = .ok (.enter 151 args) w := enters_of L.fW (by kernel_rfl) rfl
  have LL : Aside (SortP P k) := L
  have S0 : Aside (SWK enc k w0 blk off d w) := S
  clear S
  go_enter FG, Tryz.ntmps130
  have rw1 : IntKind.i64.wrap ((m : Int) - (a : Int)) = (m : Int) - (a : Int) := by rw [IntKind.wrap_i64]; omega
  have rw2 : IntKind.i64.wrap ((b : Int) - (m : Int)) = (b : Int) - (m : Int) := by rw [IntKind.wrap_i64]; omega
  go_wp2
  clear rw1 rw2
  go_loopg [10, 11] (b - a) (fun kx s8 s9 wr => ∃ (i j : Nat) (dk : Array α), s8 = .int .i64 i ∧ s9 = .int .i64 j ∧ 0 < i ∧ 0 < j ∧ i ≤ m ∧ m + j ≤ d.size ∧ i + j ≤ kx ∧ dk.size = d.size ∧ Aside (SWK enc k w0 blk off dk wr) ∧ Hid (rotFrom m i j dk = rotFrom m (m - a) (b - m) d))
  case atStart => exact ⟨m - a, b - m, d, by congr 1; omega, by congr 1; omega, by omega, by omega, by omega, by omega, by omega, rfl, S0, rfl⟩
  case round =>
    clear S0
    obtain ⟨i, j, dk, rfl, rfl, hi0, hj0, him, hmj, hkx, hds, S1, HE⟩ := hrel
    have rmi : IntKind.i64.wrap ((m : Int) - (i : Int)) = (m : Int) - (i : Int) := by rw [IntKind.wrap_i64]; omega
    rcases Nat.lt_trichotomy i j with hc | hc | hc
    · have h1 : ((i : Int) == (j : Int)) = false := by rw [beq_eq_false_iff_ne]; omega
      have h2 : ¬ (j : Int) < (i : Int) := by omega
      have r1 : IntKind.i64.wrap ((m : Int) + (j : Int)) = (m : Int) + (j : Int) := by rw [IntKind.wrap_i64]; omega
      have r2 : IntKind.i64.wrap ((m : Int) + (j : Int) - (i : Int)) = (m : Int) + (j : Int) - (i : Int) := by rw [IntKind.wrap_i64]; omega
      have r3 : IntKind.i64.wrap ((j : Int) - (i : Int)) = (j : Int) - (i : Int) := by rw [IntKind.wrap_i64]; omega
      have hcW := swapRange_any LL.out enc g cb blk off cap (m - i) (m + j - i) i d0 dk w0 wr R (by omega) S1.out (by omega) (by omega) (by omega)
      rw [hds, show ((m - i : Nat) : Int) = (m : Int) - (i : Int) by omega, show ((m + j - i : Nat) : Int) = (m : Int) + (j : Int) - (i : Int) by omega] at hcW
      have HC : Aside _ := hcW
      clear hcW S1
      go_wp2_with fail
      refine Calls.mono HC.out ?_
      rintro e w' ⟨rfl, hS2⟩
      have S2 : Aside (SWK _ _ _ _ _ _ _) := hS2
      clear hS2
      go_wp2
      go_roundg (j)
      case measure => omega
      case rel => exact ⟨i, j - i, swapR (m - i) (m + j - i) i dk, rfl, by congr 1; omega, hi0, by omega, him, by omega, by omega, by rw [size_swapR]; exact hds, S2, (show Hid _ from by rw [← HE.out, rotFrom_lt hi0 hc]; exact rfl)⟩
    · subst hc
      have hcW := swapRange_any LL.out enc g cb blk off cap (m - i) m i d0 dk w0 wr R (by omega) S1.out (by omega) (by omega) (by omega)
      rw [hds, show ((m - i : Nat) : Int) = (m : Int) - (i : Int) by omega] at hcW
      have HC : Aside _ := hcW
      clear hcW S1
      go_wp2_with fail
      refine Calls.mono HC.out ?_
      rintro e w' ⟨rfl, hS2⟩
      have S2 : Aside (SWK _ _ _ _ _ _ _) := hS2
      clear hS2
      go_wp2
      go_end0
      refine ⟨rfl, ?_⟩
      have := HE.out
      rw [rotFrom_eq hi0] at this
      rw [← this]
      exact S2.out
    · have h1 : ((i : Int) == (j : Int)) = false := by rw [beq_eq_false_iff_ne]; omega
      have h2 : (j : Int) < (i : Int) := by omega
      have r3 : IntKind.i64.wrap ((i : Int) - (j : Int)) = (i : Int) - (j : Int) := by rw [IntKind.wrap_i64]; omega
      have hcW := swapRange_any LL.out enc g cb blk off cap (m - i) m j d0 dk w0 wr R (by omega) S1.out (by omega) (by omega) (by omega)
      rw [hds, show ((m - i : Nat) : Int) = (m : Int) - (i : Int) by omega] at hcW
      have HC : Aside _ := hcW
      clear hcW S1
      go_wp2_with fail
      refine Calls.mono HC.out ?_
      rintro e w' ⟨rfl, hS2⟩
      have S2 : Aside (SWK _ _ _ _ _ _ _) := hS2
      clear hS2
      go_wp2
      go_roundg (i)
      case measure => omega
      case rel => exact ⟨i - j, j, swapR (m - i) m j dk, by congr 1; omega, rfl, by omega, hj0, by omega, hmj, by omega, by rw [size_swapR]; exact hds, S2, (show Hid _ from by rw [← HE.out, rotFrom_gt hj0 hc]; exact rfl)⟩

end Go.Proofs.YtkdhaipjfkalfaaGreatDoor

/- What is proved: slices.symMergeCmpFunc at scalars: two runs in order become one. -/
namespace Go.Proofs.YtkdhaipjfkalfaaGreatDoor
open Go Go.Shelf Go.RowKit Go.Lib Go.Sort
set_option linter.unusedSimpArgs false
set_option linter.unusedVariables false
set_option linter.unusedSectionVars false
variable {P : Program} {k : Nat} {α : Type} [Inhabited α]

set_option maxHeartbeats 8000000 in
set_option maxRecDepth 1000000 in
theorem symOneLeft_any (L : SortP P k) (enc : α → List Value) (g : Nat) (cb : Array Value) (blk off cap : Nat) (cf : α → α → Int) (eg : ∀ args w, (callFunc g args).run P w = .ok (.enter g args) w) (a m b : Nat) (d0 d : Array α) (w0 w : World)
    (R : RowK enc k w0 blk off d0) (hcmp : CmpLays P g cb enc k cf blk off d0.size w0) (hO : SWO (ltOf cf)) (hs : d0.size = d.size) (S : SWK enc k w0 blk off d w)
    (hm : m = a + 1) (hmb : m < b) (hb : b ≤ d.size) (hsz : d.size < 4611686018427387904) (hr : SortedIn (ltOf cf) m b d) :
    Calls P 104 #[.slice (some ⟨blk, off, none⟩) d.size cap, .int .i64 a, .int .i64 m, .int .i64 b, .func (.func g) #[] cb] w fun e w' => e = .returned (.tuple #[]) ∧ ∃ d', PermIn a b d d' ∧ SortedIn (ltOf cf) a b d' ∧ SWK enc k w0 blk off d' w' := by
  have mixed := L.mixed; have aE := L.aE; have zE := L.zE; have t0 := L.t0; have a0 := L.a0; have z0 := L.z0; have v0 := L.v0; have t1 := L.t1; have a1 := L.a1; have z1 := L.z1; have v1 := L.v1; have t2 := L.t2; have a2 := L.a2; have z2 := L.z2; have v2 := L.v2; have t3 := L.t3; have a3 := L.a3; have z3 := L.z3; have v3 := L.v3; have t4 := L.t4; have a4 := L.a4; have z4 := L.z4; have v4 := L.v4; have t5 := L.t5; have a5 := L.a5; have z5 := L.z5; have v5 := L.v5
  have FG := L.fM
  have S0 : Aside (SWK enc k w0 blk off d w) := S
  have HC : Aside (CmpLays P g cb enc k cf blk off d0.size w0) := hcmp
  clear S hcmp
  have HO := hid hO
  have HR : Hid (SortedIn (ltOf cf) (a + 1) b d) := by rw [← hm]; exact hr
  have HM := hid hm
  clear hO hr
  obtain ⟨p, hp⟩ : ∃ p : Nat → Bool, ∀ h, p h = ltOf cf d[h]! d[a]! := ⟨_, fun _ => rfl⟩
  have HP := hid hp
  clear hp
  go_enter FG, Tryz.ntmps104
  have rma : IntKind.i64.wrap ((m : Int) - (a : Int)) = (m : Int) - (a : Int) := by rw [IntKind.wrap_i64]; omega
  have hma : (((m : Int) - (a : Int)) == 1) = true := by rw [beq_iff_eq]; omega
  have hma2 : a + 1 ≤ m ∧ m ≤ a + 1 := by omega
  clear hm
  go_wp2
  go_loopg [10, 11] (b - m) (fun kx s8 s9 wr => ∃ (x y : Nat), s8 = .int .i64 x ∧ s9 = .int .i64 y ∧ m ≤ x ∧ x ≤ y ∧ y ≤ b ∧ y - x ≤ kx ∧ Aside (SWK enc k w0 blk off d wr) ∧ Hid (halves p x y = halves p m b))
  case atStart => exact ⟨m, b, by first | rfl | (congr 1; omega), by first | rfl | (congr 1; omega), by omega, by omega, by omega, by omega, S0, rfl⟩
  case round =>
    clear S0
    obtain ⟨x, y, rfl, rfl, hlx, hxy, hyh, hkx, S1, HE⟩ := hrel
    by_cases hlt : x < y
    · have hltz : (x : Int) < (y : Int) := by omega
      have rxy : IntKind.i64.wrap ((x : Int) + (y : Int)) = (x : Int) + (y : Int) := by rw [IntKind.wrap_i64]; omega
      have hh : m ≤ (x + y) / 2 ∧ (x + y) / 2 < b ∧ x ≤ (x + y) / 2 ∧ (x + y) / 2 < y := by omega
      have rh1 : IntKind.i64.wrap (((x : Int) + (y : Int)) / 2 + 1) = ((x : Int) + (y : Int)) / 2 + 1 := by rw [IntKind.wrap_i64]; omega
      cases hL : ltOf cf d[(x + y) / 2]! d[a]! with
      | true =>
        have ea9 : (((x : Int) + (y : Int)) / 2).toNat = (x + y) / 2 := by omega
        have pa9 : (0 : Int) ≤ ((x : Int) + (y : Int)) / 2 := by omega
        have ba9 : ((x : Int) + (y : Int)) / 2 < (d.size : Int) := by omega
        have ra9 : IntKind.i64.wrap (((x : Int) + (y : Int)) / 2) = ((x : Int) + (y : Int)) / 2 := by rw [IntKind.wrap_i64]; omega
        have ec9 : ((a : Int)).toNat = a := by omega
        have pc9 : (0 : Int) ≤ (a : Int) := by omega
        have bc9 : (a : Int) < (d.size : Int) := by omega
        have rc9 : IntKind.i64.wrap ((a : Int)) = (a : Int) := by rw [IntKind.wrap_i64]; omega
        obtain ⟨x9, hx9⟩ : ∃ zz, zz = d[(x + y) / 2]! := ⟨_, rfl⟩
        obtain ⟨y9, hy9⟩ : ∃ zz, zz = d[a]! := ⟨_, rfl⟩
        have l9a := S1.out.ld R (by omega) P ((x + y) / 2) (by omega)
        have l9b := S1.out.ld R (by omega) P (a) (by omega)
        rw [← hx9] at l9a
        rw [← hy9] at l9b
        have hc9 := S1.out.cmp HC.out (by omega) x9 y9
        have hv9 : cf x9 y9 < 0 := by rw [hx9, hy9]; exact of_decide_eq_true hL
        have hd9 : decide (cf x9 y9 < 0) = true := decide_eq_true hv9
        have HL := hid hL
        clear hL
        clear hx9 hy9
        go_wp2_with fail
        go_quiet_grown (first | (go_at_fn g; refine Calls.grown_of (hc9 _ _)))
        have S2 : Aside (SWK enc k w0 blk off d (grow (wr.drewN nq) osq)) := S1.out.grown nq osq
        clear l9a l9b hc9 S1
        generalize grow (wr.drewN nq) osq = w2 at S2 ⊢
        clear nq osq
        go_wp2
        go_roundg (y - ((x + y) / 2 + 1))
        case measure => omega
        case rel => exact ⟨(x + y) / 2 + 1, y, by first | go_num | (congr 1; omega), rfl, by omega, by omega, by omega, Nat.le_refl _, S2, (show Hid _ from by rw [← HE.out, halves_up hlt (by show _ = true; rw [HP.out]; first | (simp [HL.out]; done) | (rw [HQ.out]; simp [HL.out]; done))]; exact rfl)⟩
      | false =>
        have ea9 : (((x : Int) + (y : Int)) / 2).toNat = (x + y) / 2 := by omega
        have pa9 : (0 : Int) ≤ ((x : Int) + (y : Int)) / 2 := by omega
        have ba9 : ((x : Int) + (y : Int)) / 2 < (d.size : Int) := by omega
        have ra9 : IntKind.i64.wrap (((x : Int) + (y : Int)) / 2) = ((x : Int) + (y : Int)) / 2 := by rw [IntKind.wrap_i64]; omega
        have ec9 : ((a : Int)).toNat = a := by omega
        have pc9 : (0 : Int) ≤ (a : Int) := by omega
        have bc9 : (a : Int) < (d.size : Int) := by omega
        have rc9 : IntKind.i64.wrap ((a : Int)) = (a : Int) := by rw [IntKind.wrap_i64]; omega
        obtain ⟨x9, hx9⟩ : ∃ zz, zz = d[(x + y) / 2]! := ⟨_, rfl⟩
        obtain ⟨y9, hy9⟩ : ∃ zz, zz = d[a]! := ⟨_, rfl⟩
        have l9a := S1.out.ld R (by omega) P ((x + y) / 2) (by omega)
        have l9b := S1.out.ld R (by omega) P (a) (by omega)
        rw [← hx9] at l9a
        rw [← hy9] at l9b
        have hc9 := S1.out.cmp HC.out (by omega) x9 y9
        have hv9 : ¬ cf x9 y9 < 0 := by rw [hx9, hy9]; exact of_decide_eq_false hL
        have hd9 : decide (cf x9 y9 < 0) = false := decide_eq_false hv9
        have HL := hid hL
        clear hL
        clear hx9 hy9
        go_wp2_with fail
        go_quiet_grown (first | (go_at_fn g; refine Calls.grown_of (hc9 _ _)))
        have S2 : Aside (SWK enc k w0 blk off d (grow (wr.drewN nq) osq)) := S1.out.grown nq osq
        clear l9a l9b hc9 S1
        generalize grow (wr.drewN nq) osq = w2 at S2 ⊢
        clear nq osq
        go_wp2
        go_roundg ((x + y) / 2 - x)
        case measure => omega
        case rel => exact ⟨x, (x + y) / 2, rfl, by first | go_num | (congr 1; omega), by omega, by omega, by omega, Nat.le_refl _, S2, (show Hid _ from by rw [← HE.out, halves_down hlt (by show _ = false; rw [HP.out]; first | (simp [HL.out]; done) | (rw [HQ.out]; simp [HL.out]; done))]; exact rfl)⟩
    · have hltz : ¬ (x : Int) < (y : Int) := by omega
      have hxe : x = y := by omega
      subst hxe
      have HS := hid (show halves p m b = x by have h := HE.out; rw [halves_stop hlt] at h; exact h.symm)
      clear HE hlt hkx hxy
      have rs : IntKind.i64.wrap ((x : Int) - 1) = (x : Int) - 1 := by rw [IntKind.wrap_i64]; omega
      go_wp2
      go_loopg [13] (x - 1 - a) (fun kx s8 wr => ∃ (q : Nat) (dk : Array α), s8 = .int .i64 q ∧ a ≤ q ∧ q ≤ x - 1 ∧ x - 1 - q ≤ kx ∧ dk.size = d.size ∧ Aside (SWK enc k w0 blk off dk wr) ∧ Hid (goUp (x - 1) q dk = goUp (x - 1) a d))
      case atStart => exact ⟨a, d, rfl, by omega, by omega, by omega, rfl, S1, rfl⟩
      case round =>
        clear S1
        obtain ⟨q, dk, rfl, haq, hqx, hkx, hds, S3, HE⟩ := hrel
        by_cases hq : q < x - 1
        · have hqz : (q : Int) < (x : Int) - 1 := by omega
          go_wp2_with fail
          have ea7 : ((q : Int)).toNat = q := by omega
          have pa7 : (0 : Int) ≤ (q : Int) := by omega
          have ba7 : (q : Int) < (d.size : Int) := by omega
          have ra7 : IntKind.i64.wrap ((q : Int)) = (q : Int) := by rw [IntKind.wrap_i64]; omega
          have ec7 : ((q : Int) + 1).toNat = q + 1 := by omega
          have pc7 : (0 : Int) ≤ (q : Int) + 1 := by omega
          have bc7 : (q : Int) + 1 < (d.size : Int) := by omega
          have rc7 : IntKind.i64.wrap ((q : Int) + 1) = (q : Int) + 1 := by rw [IntKind.wrap_i64]; omega
          have S4 : Aside (SWK enc k w0 blk off (swp dk (q) (q + 1)) ((wr.drew.setCells blk (off + (q) * k) (enc dk[q + 1]!)).setCells blk (off + (q + 1) * k) (enc dk[q]!))) := S3.out.swapped R (q) (q + 1) (by omega) (by omega)
          have l7a := S3.out.ld1 R (by omega) P (q) (by omega)
          have l7b := S3.out.ld1 R (by omega) P (q + 1) (by omega)
          have s7a := S3.out.st1 R (by omega) P (q) (by omega) dk[q + 1]!
          have s7b := S3.out.st2 R (by omega) P (q) (q + 1) (by omega) (by omega) dk[q + 1]! dk[q]!
          have n7a : (enc dk[q]!).length = k := R.hk _
          have n7b : (enc dk[q + 1]!).length = k := R.hk _
          generalize enc dk[q]! = cI7 at S4 l7a s7b n7a
          generalize enc dk[q + 1]! = cJ7 at S4 l7b s7a s7b n7b
          clear S3
          go_wp2_with fail
          go_big_region_o
          clear l7a l7b s7a s7b
          generalize (wr.drew.setCells blk (off + (q) * k) cJ7).setCells blk (off + (q + 1) * k) cI7 = w7 at S4 ⊢
          go_wp2
          go_roundg (x - 1 - (q + 1))
          case measure => omega
          case rel => exact ⟨q + 1, swp dk q (q + 1), by go_num, by omega, by omega, Nat.le_refl _, by rw [size_swp]; exact hds, S4, (show Hid _ from by rw [← HE.out, goUp_go hq]; exact rfl)⟩
        · have hqz : ¬ (q : Int) < (x : Int) - 1 := by omega
          go_wp2
          (try simp only [Exit.inBlock, Exit.then]); refine bodyPost_ret (results_none rfl _ _ _) rfl ?_
          have hg : dk = goUp (x - 1) a d := by have h := HE.out; rwa [goUp_stop hq] at h
          have ho := one_left HO.out (a := a) (b := b) (d := d) (by omega) hb HR.out
          have hh : halves (fun h => ltOf cf d[h]! d[a]!) (a + 1) b = x := by rw [← HS.out, ← HM.out]; exact congrArg (fun f => halves f m b) (funext fun h => (HP.out h).symm)
          rw [hh, ← hg] at ho
          exact ⟨rfl, dk, ho.1, ho.2, S3.out⟩

set_option maxHeartbeats 8000000 in
set_option maxRecDepth 1000000 in
theorem symOneRight_any (L : SortP P k) (enc : α → List Value) (g : Nat) (cb : Array Value) (blk off cap : Nat) (cf : α → α → Int) (eg : ∀ args w, (callFunc g args).run P w = .ok (.enter g args) w) (a m b : Nat) (d0 d : Array α) (w0 w : World)
    (R : RowK enc k w0 blk off d0) (hcmp : CmpLays P g cb enc k cf blk off d0.size w0) (hO : SWO (ltOf cf)) (hs : d0.size = d.size) (S : SWK enc k w0 blk off d w)
    (ham : a + 1 < m) (hm : b = m + 1) (hb : b ≤ d.size) (hsz : d.size < 4611686018427387904) (hr : SortedIn (ltOf cf) a m d) :
    Calls P 104 #[.slice (some ⟨blk, off, none⟩) d.size cap, .int .i64 a, .int .i64 m, .int .i64 b, .func (.func g) #[] cb] w fun e w' => e = .returned (.tuple #[]) ∧ ∃ d', PermIn a b d d' ∧ SortedIn (ltOf cf) a b d' ∧ SWK enc k w0 blk off d' w' := by
  have mixed := L.mixed; have aE := L.aE; have zE := L.zE; have t0 := L.t0; have a0 := L.a0; have z0 := L.z0; have v0 := L.v0; have t1 := L.t1; have a1 := L.a1; have z1 := L.z1; have v1 := L.v1; have t2 := L.t2; have a2 := L.a2; have z2 := L.z2; have v2 := L.v2; have t3 := L.t3; have a3 := L.a3; have z3 := L.z3; have v3 := L.v3; have t4 := L.t4; have a4 := L.a4; have z4 := L.z4; have v4 := L.v4; have t5 := L.t5; have a5 := L.a5; have z5 := L.z5; have v5 := L.v5
  have FG := L.fM
  have S0 : Aside (SWK enc k w0 blk off d w) := S
  have HC : Aside (CmpLays P g cb enc k cf blk off d0.size w0) := hcmp
  clear S hcmp
  have HO := hid hO
  have HR := hid hr
  have HM := hid hm
  clear hO hr
  obtain ⟨p, hp⟩ : ∃ p : Nat → Bool, ∀ h, p h = !ltOf cf d[m]! d[h]! := ⟨_, fun _ => rfl⟩
  have HP := hid hp
  clear hp
  go_enter FG, Tryz.ntmps104
  have rma : IntKind.i64.wrap ((m : Int) - (a : Int)) = (m : Int) - (a : Int) := by rw [IntKind.wrap_i64]; omega
  have hma : (((m : Int) - (a : Int)) == 1) = false := by rw [beq_eq_false_iff_ne]; omega
  have rmb : IntKind.i64.wrap ((b : Int) - (m : Int)) = (b : Int) - (m : Int) := by rw [IntKind.wrap_i64]; omega
  have hmb : (((b : Int) - (m : Int)) == 1) = true := by rw [beq_iff_eq]; omega
  have hmb2 : m + 1 ≤ b ∧ b ≤ m + 1 := by omega
  clear hm
  go_wp2
  go_loopg [14, 15] (m - a) (fun kx s8 s9 wr => ∃ (x y : Nat), s8 = .int .i64 x ∧ s9 = .int .i64 y ∧ a ≤ x ∧ x ≤ y ∧ y ≤ m ∧ y - x ≤ kx ∧ Aside (SWK enc k w0 blk off d wr) ∧ Hid (halves p x y = halves p a m))
  case atStart => exact ⟨a, m, by first | rfl | (congr 1; omega), by first | rfl | (congr 1; omega), by omega, by omega, by omega, by omega, S0, rfl⟩
  case round =>
    clear S0
    obtain ⟨x, y, rfl, rfl, hlx, hxy, hyh, hkx, S1, HE⟩ := hrel
    by_cases hlt : x < y
    · have hltz : (x : Int) < (y : Int) := by omega
      have rxy : IntKind.i64.wrap ((x : Int) + (y : Int)) = (x : Int) + (y : Int) := by rw [IntKind.wrap_i64]; omega
      have hh : a ≤ (x + y) / 2 ∧ (x + y) / 2 < m ∧ x ≤ (x + y) / 2 ∧ (x + y) / 2 < y := by omega
      have rh1 : IntKind.i64.wrap (((x : Int) + (y : Int)) / 2 + 1) = ((x : Int) + (y : Int)) / 2 + 1 := by rw [IntKind.wrap_i64]; omega
      cases hL : ltOf cf d[m]! d[(x + y) / 2]! with
      | true =>
        have ea9 : ((m : Int)).toNat = m := by omega
        have pa9 : (0 : Int) ≤ (m : Int) := by omega
        have ba9 : (m : Int) < (d.size : Int) := by omega
        have ra9 : IntKind.i64.wrap ((m : Int)) = (m : Int) := by rw [IntKind.wrap_i64]; omega
        have ec9 : (((x : Int) + (y : Int)) / 2).toNat = (x + y) / 2 := by omega
        have pc9 : (0 : Int) ≤ ((x : Int) + (y : Int)) / 2 := by omega
        have bc9 : ((x : Int) + (y : Int)) / 2 < (d.size : Int) := by omega
        have rc9 : IntKind.i64.wrap (((x : Int) + (y : Int)) / 2) = ((x : Int) + (y : Int)) / 2 := by rw [IntKind.wrap_i64]; omega
        obtain ⟨x9, hx9⟩ : ∃ zz, zz = d[m]! := ⟨_, rfl⟩
        obtain ⟨y9, hy9⟩ : ∃ zz, zz = d[(x + y) / 2]! := ⟨_, rfl⟩
        have l9a := S1.out.ld R (by omega) P (m) (by omega)
        have l9b := S1.out.ld R (by omega) P ((x + y) / 2) (by omega)
        rw [← hx9] at l9a
        rw [← hy9] at l9b
        have hc9 := S1.out.cmp HC.out (by omega) x9 y9
        have hv9 : cf x9 y9 < 0 := by rw [hx9, hy9]; exact of_decide_eq_true hL
        have hd9 : decide (cf x9 y9 < 0) = true := decide_eq_true hv9
        have HL := hid hL
        clear hL
        clear hx9 hy9
        go_wp2_with fail
        go_quiet_grown (first | (go_at_fn g; refine Calls.grown_of (hc9 _ _)))
        have S2 : Aside (SWK enc k w0 blk off d (grow (wr.drewN nq) osq)) := S1.out.grown nq osq
        clear l9a l9b hc9 S1
        generalize grow (wr.drewN nq) osq = w2 at S2 ⊢
        clear nq osq
        go_wp2
        go_roundg ((x + y) / 2 - x)
        case measure => omega
        case rel => exact ⟨x, (x + y) / 2, rfl, by first | go_num | (congr 1; omega), by omega, by omega, by omega, Nat.le_refl _, S2, (show Hid _ from by rw [← HE.out, halves_down hlt (by show _ = false; rw [HP.out]; first | (simp [HL.out]; done) | (rw [HQ.out]; simp [HL.out]; done))]; exact rfl)⟩
      | false =>
        have ea9 : ((m : Int)).toNat = m := by omega
        have pa9 : (0 : Int) ≤ (m : Int) := by omega
        have ba9 : (m : Int) < (d.size : Int) := by omega
        have ra9 : IntKind.i64.wrap ((m : Int)) = (m : Int) := by rw [IntKind.wrap_i64]; omega
        have ec9 : (((x : Int) + (y : Int)) / 2).toNat = (x + y) / 2 := by omega
        have pc9 : (0 : Int) ≤ ((x : Int) + (y : Int)) / 2 := by omega
        have bc9 : ((x : Int) + (y : Int)) / 2 < (d.size : Int) := by omega
        have rc9 : IntKind.i64.wrap (((x : Int) + (y : Int)) / 2) = ((x : Int) + (y : Int)) / 2 := by rw [IntKind.wrap_i64]; omega
        obtain ⟨x9, hx9⟩ : ∃ zz, zz = d[m]! := ⟨_, rfl⟩
        obtain ⟨y9, hy9⟩ : ∃ zz, zz = d[(x + y) / 2]! := ⟨_, rfl⟩
        have l9a := S1.out.ld R (by omega) P (m) (by omega)
        have l9b := S1.out.ld R (by omega) P ((x + y) / 2) (by omega)
        rw [← hx9] at l9a
        rw [← hy9] at l9b
        have hc9 := S1.out.cmp HC.out (by omega) x9 y9
        have hv9 : ¬ cf x9 y9 < 0 := by rw [hx9, hy9]; exact of_decide_eq_false hL
        have hd9 : decide (cf x9 y9 < 0) = false := decide_eq_false hv9
        have HL := hid hL
        clear hL
        clear hx9 hy9
        go_wp2_with fail
        go_quiet_grown (first | (go_at_fn g; refine Calls.grown_of (hc9 _ _)))
        have S2 : Aside (SWK enc k w0 blk off d (grow (wr.drewN nq) osq)) := S1.out.grown nq osq
        clear l9a l9b hc9 S1
        generalize grow (wr.drewN nq) osq = w2 at S2 ⊢
        clear nq osq
        go_wp2
        go_roundg (y - ((x + y) / 2 + 1))
        case measure => omega
        case rel => exact ⟨(x + y) / 2 + 1, y, by first | go_num | (congr 1; omega), rfl, by omega, by omega, by omega, Nat.le_refl _, S2, (show Hid _ from by rw [← HE.out, halves_up hlt (by show _ = true; rw [HP.out]; first | (simp [HL.out]; done) | (rw [HQ.out]; simp [HL.out]; done))]; exact rfl)⟩
    · have hltz : ¬ (x : Int) < (y : Int) := by omega
      have hxe : x = y := by omega
      subst hxe
      have HS := hid (show halves p a m = x by have h := HE.out; rw [halves_stop hlt] at h; exact h.symm)
      clear HE hlt hkx hxy
      go_wp2
      go_loopg [17] (m - x) (fun kx s8 wr => ∃ (q : Nat) (dk : Array α), s8 = .int .i64 q ∧ x ≤ q ∧ q ≤ m ∧ q - x ≤ kx ∧ dk.size = d.size ∧ Aside (SWK enc k w0 blk off dk wr) ∧ Hid (goDown x q dk = goDown x m d))
      case atStart => exact ⟨m, d, rfl, by omega, by omega, by omega, rfl, S1, rfl⟩
      case round =>
        clear S1
        obtain ⟨q, dk, rfl, haq, hqx, hkx, hds, S3, HE⟩ := hrel
        by_cases hq : x < q
        · obtain ⟨q, rfl⟩ : ∃ u, q = u + 1 := ⟨q - 1, by omega⟩
          have hqz : (x : Int) < (q : Int) + 1 := by omega
          have hq' : x < q + 1 := hq
          go_wp2_with fail
          have ea7 : ((q : Int) + 1).toNat = q + 1 := by omega
          have pa7 : (0 : Int) ≤ (q : Int) + 1 := by omega
          have ba7 : (q : Int) + 1 < (d.size : Int) := by omega
          have ra7 : IntKind.i64.wrap ((q : Int) + 1) = (q : Int) + 1 := by rw [IntKind.wrap_i64]; omega
          have ec7 : ((q : Int)).toNat = q := by omega
          have pc7 : (0 : Int) ≤ (q : Int) := by omega
          have bc7 : (q : Int) < (d.size : Int) := by omega
          have rc7 : IntKind.i64.wrap ((q : Int)) = (q : Int) := by rw [IntKind.wrap_i64]; omega
          have S4 : Aside (SWK enc k w0 blk off (swp dk (q + 1) (q)) ((wr.drew.setCells blk (off + (q + 1) * k) (enc dk[q]!)).setCells blk (off + (q) * k) (enc dk[q + 1]!))) := S3.out.swapped R (q + 1) (q) (by omega) (by omega)
          have l7a := S3.out.ld1 R (by omega) P (q + 1) (by omega)
          have l7b := S3.out.ld1 R (by omega) P (q) (by omega)
          have s7a := S3.out.st1 R (by omega) P (q + 1) (by omega) dk[q]!
          have s7b := S3.out.st2 R (by omega) P (q + 1) (q) (by omega) (by omega) dk[q]! dk[q + 1]!
          have n7a : (enc dk[q + 1]!).length = k := R.hk _
          have n7b : (enc dk[q]!).length = k := R.hk _
          generalize enc dk[q + 1]! = cI7 at S4 l7a s7b n7a
          generalize enc dk[q]! = cJ7 at S4 l7b s7a s7b n7b
          clear S3
          go_wp2_with fail
          go_big_region_o
          clear l7a l7b s7a s7b
          generalize (wr.drew.setCells blk (off + (q + 1) * k) cJ7).setCells blk (off + (q) * k) cI7 = w7 at S4 ⊢
          go_wp2
          go_roundg (q - x)
          case measure => omega
          case rel => exact ⟨q, swp dk (q + 1) q, by first | rfl | go_num | (congr 1; omega), by omega, by omega, Nat.le_refl _, by rw [size_swp]; exact hds, S4, (show Hid _ from by rw [← HE.out, goDown_go hq']; exact rfl)⟩
        · have hqz : ¬ (x : Int) < (q : Int) := by omega
          go_wp2
          (try simp only [Exit.inBlock, Exit.then]); refine bodyPost_ret (results_none rfl _ _ _) rfl ?_
          have hg : dk = goDown x m d := by have h := HE.out; rwa [goDown_stop hq] at h
          have ho := one_right HO.out (a := a) (m := m) (d := d) (by omega) (by omega) HR.out
          have hh : halves (fun h => !ltOf cf d[m]! d[h]!) a m = x := by rw [← HS.out]; exact congrArg (fun f => halves f a m) (funext fun h => (HP.out h).symm)
          rw [hh, ← hg] at ho
          rw [HM.out]
          exact ⟨rfl, dk, ho.1, ho.2, S3.out⟩

end Go.Proofs.YtkdhaipjfkalfaaGreatDoor
