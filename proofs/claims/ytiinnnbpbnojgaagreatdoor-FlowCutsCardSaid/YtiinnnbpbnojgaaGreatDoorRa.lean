import Derived.Test.YtiinnnbpbnojgaaGreatDoorWg
import Derived.Test.YtiinnnbpbnojgaaGreatDoorMaps
import Derived.Lib.MapLaws
import Derived.Handy
import Derived.Deep.RegionHeld3
namespace Go.Proofs.YtiinnnbpbnojgaaGreatDoor
set_option linter.unusedSimpArgs false
open Go Go.RowKit Go.Lib

def signP (n : Int) : Bool := decide (0 ≤ n) && decide (n ≤ 1114111) && (decide (n < 55296) || decide (57343 < n))
def plainN (n : Int) : Bool := decide (32 ≤ n) && !(n == 127)

theorem Sign_same (n : Int) (w : World) :
    Calls Tryz.prog 196 #[.int .i64 n] w fun e w' => e = .returned (.bool (signP n)) ∧ w' = w := by
  go_enter Tryz.func196, Tryz.ntmps196
  go_wp2
  all_goals (go_ret; refine ⟨?_, rfl⟩)
  all_goals (refine congrArg (fun b => Ending.returned (Value.bool b)) (?_ : _ = signP n); unfold signP; rw [Bool.eq_iff_iff]; simp; omega)
theorem Sign_any (n : Int) (w : World) :
    Calls Tryz.prog 196 #[.int .i64 n] w fun e w' => e = .returned (.bool (signP n)) ∧ Below w.heap.size w w' :=
  (Sign_same n w).mono fun _ _ h => ⟨h.1, h.2 ▸ Below.refl _ _⟩

theorem refPlain_any (n : Int) (w : World) :
    Calls Tryz.prog 116 #[.int .i64 n] w fun e w' => e = .returned (.bool (plainN n)) ∧ Below w.heap.size w w' := by
  go_enter Tryz.func116, Tryz.ntmps116
  go_wp2
  all_goals (go_ret; refine ⟨?_, Below.refl _ _⟩)
  all_goals (refine congrArg (fun b => Ending.returned (Value.bool b)) (?_ : _ = plainN n); unfold plainN; rw [Bool.eq_iff_iff]; simp; omega)

theorem conv_bytes (w : World) (xs : List Int) :
    (Sem.run Tryz.prog (convert 117 9 (.slice (some ⟨w.heap.size, 0, none⟩) xs.length xs.length)) (w.alloc (.cells (xs.map (Value.int .u8)).toArray 5))) = .ok (.string (strOfNums xs)) (w.alloc (.cells (xs.map (Value.int .u8)).toArray 5)) := by
  refine run_convert_bytes_arg (P := Tryz.prog) _ 117 5 (by kernel_rfl) (by kernel_rfl) w.heap.size 0 xs.length xs.length xs rfl ?_ 9 (by kernel_rfl)
  intro i hi
  unfold World.cell?
  dsimp only
  rw [World.alloc_heap_new]
  simp [hi, List.getD]
theorem nums_enc (n : Int) : strOfNums (encodeRuneZ n) = ⟨(encodeRune n).toArray⟩ := by
  unfold strOfNums encodeRune
  congr 1

set_option maxRecDepth 100000 in
set_option maxHeartbeats 400000 in
theorem Bytes_any (n : Int) (w : World) (hs : signP n = true) :
    Calls Tryz.prog 197 #[.int .i64 n] w fun e w' => e = .returned (.string ⟨(encodeRune n).toArray⟩) ∧ Below w.heap.size w w' := by
  have h3 : 0 ≤ n ∧ n ≤ 1114111 ∧ (n < 55296 ∨ 57343 < n) := by
    unfold signP at hs; simpa [and_assoc] using hs
  clear hs
  obtain ⟨h0, h1, h2⟩ := h3
  have H2 := hid h2; clear h2
  by_cases c0 : n < 128
  · have h2 := H2.out
    have e : encodeRuneZ n = [n] := encodeRuneZ_one (by omega) (by omega)
    clear h2
    have hcv : (Sem.run Tryz.prog (convert 117 9 (.slice (some ⟨w.heap.size, 0, none⟩) 1 1)) (w.alloc (.cells #[Value.int .u8 (n)] 5))) = .ok (.string ⟨(encodeRune n).toArray⟩) (w.alloc (.cells #[Value.int .u8 (n)] 5)) := by rw [← nums_enc, e]; exact conv_bytes w [n]
    clear e
    go_enter Tryz.func197, Tryz.ntmps197
    go_wp2
    go_ret
    exact ⟨rfl, (Below.refl _ w).alloc (Nat.le_refl _) _⟩
  by_cases c1 : n < 2048
  · have h2 := H2.out
    have e : encodeRuneZ n = [192 + n / 64, 128 + n % 64] := encodeRuneZ_two (by omega) (by omega)
    clear h2
    have hcv : (Sem.run Tryz.prog (convert 117 9 (.slice (some ⟨w.heap.size, 0, none⟩) 2 2)) (w.alloc (.cells #[Value.int .u8 (192 + n / 64), Value.int .u8 (128 + n % 64)] 5))) = .ok (.string ⟨(encodeRune n).toArray⟩) (w.alloc (.cells #[Value.int .u8 (192 + n / 64), Value.int .u8 (128 + n % 64)] 5)) := by rw [← nums_enc, e]; exact conv_bytes w [192 + n / 64, 128 + n % 64]
    clear e
    go_enter Tryz.func197, Tryz.ntmps197
    go_wp2
    go_ret
    exact ⟨rfl, (Below.refl _ w).alloc (Nat.le_refl _) _⟩
  by_cases c2 : n < 65536
  · have h2 := H2.out
    have e : encodeRuneZ n = [224 + n / 4096, 128 + n / 64 % 64, 128 + n % 64] := encodeRuneZ_three (by omega)
    clear h2
    have hcv : (Sem.run Tryz.prog (convert 117 9 (.slice (some ⟨w.heap.size, 0, none⟩) 3 3)) (w.alloc (.cells #[Value.int .u8 (224 + n / 4096), Value.int .u8 (128 + n / 64 % 64), Value.int .u8 (128 + n % 64)] 5))) = .ok (.string ⟨(encodeRune n).toArray⟩) (w.alloc (.cells #[Value.int .u8 (224 + n / 4096), Value.int .u8 (128 + n / 64 % 64), Value.int .u8 (128 + n % 64)] 5)) := by rw [← nums_enc, e]; exact conv_bytes w [224 + n / 4096, 128 + n / 64 % 64, 128 + n % 64]
    clear e
    go_enter Tryz.func197, Tryz.ntmps197
    go_wp2
    go_ret
    exact ⟨rfl, (Below.refl _ w).alloc (Nat.le_refl _) _⟩
  have h2 := H2.out
  have e : encodeRuneZ n = [240 + n / 262144, 128 + n / 4096 % 64, 128 + n / 64 % 64, 128 + n % 64] := encodeRuneZ_four (by omega) (by omega)
  clear h2
  have hcv : (Sem.run Tryz.prog (convert 117 9 (.slice (some ⟨w.heap.size, 0, none⟩) 4 4)) (w.alloc (.cells #[Value.int .u8 (240 + n / 262144), Value.int .u8 (128 + n / 4096 % 64), Value.int .u8 (128 + n / 64 % 64), Value.int .u8 (128 + n % 64)] 5))) = .ok (.string ⟨(encodeRune n).toArray⟩) (w.alloc (.cells #[Value.int .u8 (240 + n / 262144), Value.int .u8 (128 + n / 4096 % 64), Value.int .u8 (128 + n / 64 % 64), Value.int .u8 (128 + n % 64)] 5)) := by rw [← nums_enc, e]; exact conv_bytes w [240 + n / 262144, 128 + n / 4096 % 64, 128 + n / 64 % 64, 128 + n % 64]
  clear e
  go_enter Tryz.func197, Tryz.ntmps197
  go_wp2
  go_ret
  exact ⟨rfl, (Below.refl _ w).alloc (Nat.le_refl _) _⟩

/-- The lead byte's bits, and how many bytes it says. -/
def numAt (l : List UInt8) (n0 : Int) : Nat → Int
  | 0 => n0
  | i + 1 => 64 * numAt l n0 i + (((l.getD (i + 1) 0).toNat : Int)) % 64
def leadP (c : Nat) : Int × Nat := if 240 ≤ c then ((c : Int) - 240, 4) else if 224 ≤ c then ((c : Int) - 224, 3) else if 192 ≤ c then ((c : Int) - 192, 2) else ((c : Int), 1)
def oneK (l : List UInt8) (n0 : Int) (k : Nat) : Int × Int :=
  if l.length < k then (0, 0) else if !signP (numAt l n0 (k - 1)) || !(encodeRune (numAt l n0 (k - 1)) == l.take k) then (0, 0) else (numAt l n0 (k - 1), (k : Int))
def oneP (l : List UInt8) : Int × Int := oneK l (leadP (l.headD 0).toNat).1 (leadP (l.headD 0).toNat).2

theorem head_at (s : ByteArray) (a i : Nat) (h : a + i < s.size) : (s.data.toList.drop a).getD i 0 = s[a + i]'h := by
  have h2 : a + i < s.data.toList.length := by rw [← Lib.size_eq]; exact h
  rw [List.getD, List.getElem?_drop, List.getElem?_eq_getElem h2]
  rfl
theorem headD_getD {α : Type} (l : List α) (d : α) : l.headD d = l.getD 0 d := by cases l <;> rfl
theorem oneP_of {l : List UInt8} {c : UInt8} {n0 : Int} {k : Nat} (h0 : l.getD 0 0 = c) (h1 : leadP c.toNat = (n0, k)) : oneP l = oneK l n0 k := by
  unfold oneP
  rw [headD_getD, h0, h1]
theorem take_toList (s : ByteArray) (a k : Nat) : (s.extract a (a + k)).toList = (s.data.toList.drop a).take k := by
  rw [Lib.toList_data, Lib.extract_data, Nat.add_sub_cancel_left]

set_option maxRecDepth 100000 in
set_option maxHeartbeats 400000 in
theorem One_1 (s : ByteArray) (at_ : Nat) (w : World) (hs : s.size ≤ 1000000) (h : at_ < s.size) (c : UInt8) (hc : s[at_]'h = c) (ck : (c.toNat : Int) < 192) :
    Calls Tryz.prog 161 #[.string s, .int .i64 at_] w fun e w' => e = .returned (.tuple #[.int .i64 (oneP (s.data.toList.drop at_)).1, .int .i64 (oneP (s.data.toList.drop at_)).2]) ∧ Below w.heap.size w w' := by
  have hcb : (c.toNat : Int) < 256 := by have := c.toNat_lt; omega
  have cb : ¬ 240 ≤ (c.toNat : Int) := by omega
  have cc : ¬ 224 ≤ (c.toNat : Int) := by omega
  have cd : ¬ 192 ≤ (c.toNat : Int) := by omega
  have HO := hid (oneP_of (l := s.data.toList.drop at_) (n0 := (c.toNat : Int)) (k := 1) ((head_at s at_ 0 h).trans hc) (by unfold leadP; rw [if_neg (by omega), if_neg (by omega), if_neg (by omega)]))
  · have hk : at_ + 1 ≤ s.size := h
    have hka : (0 : Int) ≤ (at_ : Int) := by omega
    have hkb : (at_ : Int) ≤ (at_ : Int) + 1 := by omega
    have hkc : (at_ : Int) + 1 ≤ (s.size : Int) := by omega
    have hsl : ∀ wx : World, (Instr.slice 9 (.string s) (some (.int .i64 (at_ : Int))) (some (.int .i64 ((at_ : Int) + 1))) none).run Tryz.prog wx = .ok (.string (s.extract at_ (at_ + 1))) wx := fun wx => by
        have := run_slice_string (P := Tryz.prog) wx 9 s .i64 .i64 (at_ : Int) ((at_ : Int) + 1) (by kernel_rfl) hka hkb hkc
        rwa [show ((at_ : Int) + 1).toNat = at_ + 1 by omega, show (at_ : Int).toNat = at_ by omega] at this
    have hki : 1 ≤ (s.size : Int) - (at_ : Int) := by omega
    have HL := hid (show (s.data.toList.drop at_).length = s.size - at_ by rw [List.length_drop, ← Lib.size_eq])
    have HT := hid (take_toList s at_ 1)
    obtain ⟨E, hE⟩ : ∃ E, s.extract at_ (at_ + 1) = E := ⟨_, rfl⟩
    rw [hE] at HT hsl
    clear hE
    have hwr : IntKind.i64.wrap ((at_ : Int) + 1) = (at_ : Int) + 1 := by go_arith
    have hwr2 : wrap64 ((at_ : Int) + 1) = (at_ : Int) + 1 := by go_arith
    go_enter Tryz.func161, Tryz.ntmps161
    go_wp2
    go_rounds 1
    generalize hv : ((c.toNat : Int)) = v
    have hnum : numAt (s.data.toList.drop at_) ((c.toNat : Int)) 0 = v := by
      rw [← hv]
      simp only [numAt, Nat.zero_add, Nat.reduceAdd]
    have HV := hid hnum; clear hnum hv
    cases hS : signP v with
    | true =>
      have HS := hid hS
      go_region_held3 (fun w' => Below w.heap.size w w') (first | assumption | exact (Below.refl _ _).drew) (first | (go_at_call 196; refine (Sign_any v _).mono ?_; rintro e w1 ⟨rfl, hb⟩; have hb2 : Below w.heap.size w w1 := Below.trans (by assumption) (hb.mono (Below.size (by assumption)))) | (go_at_call 197; refine (Bytes_any v _ hS).mono ?_; rintro e w1 ⟨rfl, hb⟩; have hb2 : Below w.heap.size w w1 := Below.trans (by assumption) (hb.mono (Below.size (by assumption)))))
      cases hB : (encodeRune v == E.toList) with
      | true =>
        have HB := hid hB
        go_wp2
        refine bodyPost_ret (v := .tuple #[.int .i64 (v), .int .i64 (1)]) (by simp [results, Tryz.results161, go_sem]) rfl ⟨?_, by assumption⟩
        rw [HO.out, show oneK (s.data.toList.drop at_) ((c.toNat : Int)) 1 = (v, 1) from (by unfold oneK; rw [if_neg (by rw [HL.out]; omega), show 1 - 1 = 0 from rfl, HV.out, HS.out, ← HT.out, HB.out]; rfl)]
      | false =>
        have HB := hid hB
        go_wp2
        refine bodyPost_ret (v := .tuple #[.int .i64 (0), .int .i64 (0)]) (by simp [results, Tryz.results161, go_sem]) rfl ⟨?_, by assumption⟩
        rw [HO.out, show oneK (s.data.toList.drop at_) ((c.toNat : Int)) 1 = (0, 0) from (by unfold oneK; rw [if_neg (by rw [HL.out]; omega), show 1 - 1 = 0 from rfl, HV.out, HS.out, ← HT.out, HB.out]; rfl)]
    | false =>
      have HS := hid hS
      go_quiet ((go_at_call 196; exact Calls.quiet_of_same (Sign_same v _)))
      have hq := below_drewN (n := nq) (Below.refl w.heap.size w)
      generalize w.drewN nq = w1 at hq ⊢
      go_wp2
      refine bodyPost_ret (v := .tuple #[.int .i64 (0), .int .i64 (0)]) (by simp [results, Tryz.results161, go_sem]) rfl ⟨?_, by assumption⟩
      rw [HO.out, show oneK (s.data.toList.drop at_) ((c.toNat : Int)) 1 = (0, 0) from (by unfold oneK; rw [if_neg (by rw [HL.out]; omega), show 1 - 1 = 0 from rfl, HV.out, HS.out]; rfl)]
set_option maxRecDepth 100000 in
set_option maxHeartbeats 400000 in
theorem One_2 (s : ByteArray) (at_ : Nat) (w : World) (hs : s.size ≤ 1000000) (h : at_ < s.size) (c : UInt8) (hc : s[at_]'h = c) (ca : (c.toNat : Int) < 224) (ck : 192 ≤ (c.toNat : Int)) :
    Calls Tryz.prog 161 #[.string s, .int .i64 at_] w fun e w' => e = .returned (.tuple #[.int .i64 (oneP (s.data.toList.drop at_)).1, .int .i64 (oneP (s.data.toList.drop at_)).2]) ∧ Below w.heap.size w w' := by
  have hcb : (c.toNat : Int) < 256 := by have := c.toNat_lt; omega
  have cb : ¬ 240 ≤ (c.toNat : Int) := by omega
  have cc : ¬ 224 ≤ (c.toNat : Int) := by omega
  have HO := hid (oneP_of (l := s.data.toList.drop at_) (n0 := (c.toNat : Int) - 192) (k := 2) ((head_at s at_ 0 h).trans hc) (by unfold leadP; rw [if_neg (by omega), if_neg (by omega), if_pos (by omega)]))
  by_cases hk : at_ + 2 ≤ s.size
  · have hka : (0 : Int) ≤ (at_ : Int) := by omega
    have hkb : (at_ : Int) ≤ (at_ : Int) + 2 := by omega
    have hkc : (at_ : Int) + 2 ≤ (s.size : Int) := by omega
    have hsl : ∀ wx : World, (Instr.slice 9 (.string s) (some (.int .i64 (at_ : Int))) (some (.int .i64 ((at_ : Int) + 2))) none).run Tryz.prog wx = .ok (.string (s.extract at_ (at_ + 2))) wx := fun wx => by
        have := run_slice_string (P := Tryz.prog) wx 9 s .i64 .i64 (at_ : Int) ((at_ : Int) + 2) (by kernel_rfl) hka hkb hkc
        rwa [show ((at_ : Int) + 2).toNat = at_ + 2 by omega, show (at_ : Int).toNat = at_ by omega] at this
    have hki : 2 ≤ (s.size : Int) - (at_ : Int) := by omega
    obtain ⟨c1, hc1⟩ : ∃ c, s[at_ + 1]'(by omega) = c := ⟨_, rfl⟩
    have hcb1 : (c1.toNat : Int) < 256 := by have := c1.toNat_lt; omega
    have HC1 := hid ((head_at s at_ 1 (by omega)).trans hc1)
    have HL := hid (show (s.data.toList.drop at_).length = s.size - at_ by rw [List.length_drop, ← Lib.size_eq])
    have HT := hid (take_toList s at_ 2)
    obtain ⟨E, hE⟩ : ∃ E, s.extract at_ (at_ + 2) = E := ⟨_, rfl⟩
    rw [hE] at HT hsl
    clear hE
    have hwr : IntKind.i64.wrap ((at_ : Int) + 2) = (at_ : Int) + 2 := by go_arith
    have hwr2 : wrap64 ((at_ : Int) + 2) = (at_ : Int) + 2 := by go_arith
    go_enter Tryz.func161, Tryz.ntmps161
    go_wp2
    go_rounds 2
    generalize hv : (64 * ((c.toNat : Int) - 192) + (c1.toNat : Int) % 64) = v
    have hnum : numAt (s.data.toList.drop at_) ((c.toNat : Int) - 192) 1 = v := by
      rw [← hv]
      simp only [numAt, HC1.out, Nat.zero_add, Nat.reduceAdd]
    have HV := hid hnum; clear hnum hv
    cases hS : signP v with
    | true =>
      have HS := hid hS
      go_region_held3 (fun w' => Below w.heap.size w w') (first | assumption | exact (Below.refl _ _).drew) (first | (go_at_call 196; refine (Sign_any v _).mono ?_; rintro e w1 ⟨rfl, hb⟩; have hb2 : Below w.heap.size w w1 := Below.trans (by assumption) (hb.mono (Below.size (by assumption)))) | (go_at_call 197; refine (Bytes_any v _ hS).mono ?_; rintro e w1 ⟨rfl, hb⟩; have hb2 : Below w.heap.size w w1 := Below.trans (by assumption) (hb.mono (Below.size (by assumption)))))
      cases hB : (encodeRune v == E.toList) with
      | true =>
        have HB := hid hB
        go_wp2
        refine bodyPost_ret (v := .tuple #[.int .i64 (v), .int .i64 (2)]) (by simp [results, Tryz.results161, go_sem]) rfl ⟨?_, by assumption⟩
        rw [HO.out, show oneK (s.data.toList.drop at_) ((c.toNat : Int) - 192) 2 = (v, 2) from (by unfold oneK; rw [if_neg (by rw [HL.out]; omega), show 2 - 1 = 1 from rfl, HV.out, HS.out, ← HT.out, HB.out]; rfl)]
      | false =>
        have HB := hid hB
        go_wp2
        refine bodyPost_ret (v := .tuple #[.int .i64 (0), .int .i64 (0)]) (by simp [results, Tryz.results161, go_sem]) rfl ⟨?_, by assumption⟩
        rw [HO.out, show oneK (s.data.toList.drop at_) ((c.toNat : Int) - 192) 2 = (0, 0) from (by unfold oneK; rw [if_neg (by rw [HL.out]; omega), show 2 - 1 = 1 from rfl, HV.out, HS.out, ← HT.out, HB.out]; rfl)]
    | false =>
      have HS := hid hS
      go_quiet ((go_at_call 196; exact Calls.quiet_of_same (Sign_same v _)))
      have hq := below_drewN (n := nq) (Below.refl w.heap.size w)
      generalize w.drewN nq = w1 at hq ⊢
      go_wp2
      refine bodyPost_ret (v := .tuple #[.int .i64 (0), .int .i64 (0)]) (by simp [results, Tryz.results161, go_sem]) rfl ⟨?_, by assumption⟩
      rw [HO.out, show oneK (s.data.toList.drop at_) ((c.toNat : Int) - 192) 2 = (0, 0) from (by unfold oneK; rw [if_neg (by rw [HL.out]; omega), show 2 - 1 = 1 from rfl, HV.out, HS.out]; rfl)]
  · have hki : (s.size : Int) - (at_ : Int) < 2 := by omega
    have HL := hid (show (s.data.toList.drop at_).length = s.size - at_ by rw [List.length_drop, ← Lib.size_eq])
    go_enter Tryz.func161, Tryz.ntmps161
    go_wp2
    refine bodyPost_ret (v := .tuple #[.int .i64 (0), .int .i64 (0)]) (by simp [results, Tryz.results161, go_sem]) rfl ⟨?_, Below.refl _ _⟩
    rw [HO.out, show oneK (s.data.toList.drop at_) ((c.toNat : Int) - 192) 2 = (0, 0) from (by unfold oneK; rw [if_pos (by rw [HL.out]; omega)])]
set_option maxRecDepth 100000 in
set_option maxHeartbeats 400000 in
theorem One_3 (s : ByteArray) (at_ : Nat) (w : World) (hs : s.size ≤ 1000000) (h : at_ < s.size) (c : UInt8) (hc : s[at_]'h = c) (ca : (c.toNat : Int) < 240) (ck : 224 ≤ (c.toNat : Int)) :
    Calls Tryz.prog 161 #[.string s, .int .i64 at_] w fun e w' => e = .returned (.tuple #[.int .i64 (oneP (s.data.toList.drop at_)).1, .int .i64 (oneP (s.data.toList.drop at_)).2]) ∧ Below w.heap.size w w' := by
  have hcb : (c.toNat : Int) < 256 := by have := c.toNat_lt; omega
  have cb : ¬ 240 ≤ (c.toNat : Int) := by omega
  have HO := hid (oneP_of (l := s.data.toList.drop at_) (n0 := (c.toNat : Int) - 224) (k := 3) ((head_at s at_ 0 h).trans hc) (by unfold leadP; rw [if_neg (by omega), if_pos (by omega)]))
  by_cases hk : at_ + 3 ≤ s.size
  · have hka : (0 : Int) ≤ (at_ : Int) := by omega
    have hkb : (at_ : Int) ≤ (at_ : Int) + 3 := by omega
    have hkc : (at_ : Int) + 3 ≤ (s.size : Int) := by omega
    have hsl : ∀ wx : World, (Instr.slice 9 (.string s) (some (.int .i64 (at_ : Int))) (some (.int .i64 ((at_ : Int) + 3))) none).run Tryz.prog wx = .ok (.string (s.extract at_ (at_ + 3))) wx := fun wx => by
        have := run_slice_string (P := Tryz.prog) wx 9 s .i64 .i64 (at_ : Int) ((at_ : Int) + 3) (by kernel_rfl) hka hkb hkc
        rwa [show ((at_ : Int) + 3).toNat = at_ + 3 by omega, show (at_ : Int).toNat = at_ by omega] at this
    have hki : 3 ≤ (s.size : Int) - (at_ : Int) := by omega
    obtain ⟨c1, hc1⟩ : ∃ c, s[at_ + 1]'(by omega) = c := ⟨_, rfl⟩
    have hcb1 : (c1.toNat : Int) < 256 := by have := c1.toNat_lt; omega
    have HC1 := hid ((head_at s at_ 1 (by omega)).trans hc1)
    obtain ⟨c2, hc2⟩ : ∃ c, s[at_ + 2]'(by omega) = c := ⟨_, rfl⟩
    have hcb2 : (c2.toNat : Int) < 256 := by have := c2.toNat_lt; omega
    have HC2 := hid ((head_at s at_ 2 (by omega)).trans hc2)
    have HL := hid (show (s.data.toList.drop at_).length = s.size - at_ by rw [List.length_drop, ← Lib.size_eq])
    have HT := hid (take_toList s at_ 3)
    obtain ⟨E, hE⟩ : ∃ E, s.extract at_ (at_ + 3) = E := ⟨_, rfl⟩
    rw [hE] at HT hsl
    clear hE
    have hwr : IntKind.i64.wrap ((at_ : Int) + 3) = (at_ : Int) + 3 := by go_arith
    have hwr2 : wrap64 ((at_ : Int) + 3) = (at_ : Int) + 3 := by go_arith
    go_enter Tryz.func161, Tryz.ntmps161
    go_wp2
    go_rounds 3
    generalize hv : (64 * (64 * ((c.toNat : Int) - 224) + (c1.toNat : Int) % 64) + (c2.toNat : Int) % 64) = v
    have hnum : numAt (s.data.toList.drop at_) ((c.toNat : Int) - 224) 2 = v := by
      rw [← hv]
      simp only [numAt, HC1.out, HC2.out, Nat.zero_add, Nat.reduceAdd]
    have HV := hid hnum; clear hnum hv
    cases hS : signP v with
    | true =>
      have HS := hid hS
      go_region_held3 (fun w' => Below w.heap.size w w') (first | assumption | exact (Below.refl _ _).drew) (first | (go_at_call 196; refine (Sign_any v _).mono ?_; rintro e w1 ⟨rfl, hb⟩; have hb2 : Below w.heap.size w w1 := Below.trans (by assumption) (hb.mono (Below.size (by assumption)))) | (go_at_call 197; refine (Bytes_any v _ hS).mono ?_; rintro e w1 ⟨rfl, hb⟩; have hb2 : Below w.heap.size w w1 := Below.trans (by assumption) (hb.mono (Below.size (by assumption)))))
      cases hB : (encodeRune v == E.toList) with
      | true =>
        have HB := hid hB
        go_wp2
        refine bodyPost_ret (v := .tuple #[.int .i64 (v), .int .i64 (3)]) (by simp [results, Tryz.results161, go_sem]) rfl ⟨?_, by assumption⟩
        rw [HO.out, show oneK (s.data.toList.drop at_) ((c.toNat : Int) - 224) 3 = (v, 3) from (by unfold oneK; rw [if_neg (by rw [HL.out]; omega), show 3 - 1 = 2 from rfl, HV.out, HS.out, ← HT.out, HB.out]; rfl)]
      | false =>
        have HB := hid hB
        go_wp2
        refine bodyPost_ret (v := .tuple #[.int .i64 (0), .int .i64 (0)]) (by simp [results, Tryz.results161, go_sem]) rfl ⟨?_, by assumption⟩
        rw [HO.out, show oneK (s.data.toList.drop at_) ((c.toNat : Int) - 224) 3 = (0, 0) from (by unfold oneK; rw [if_neg (by rw [HL.out]; omega), show 3 - 1 = 2 from rfl, HV.out, HS.out, ← HT.out, HB.out]; rfl)]
    | false =>
      have HS := hid hS
      go_quiet ((go_at_call 196; exact Calls.quiet_of_same (Sign_same v _)))
      have hq := below_drewN (n := nq) (Below.refl w.heap.size w)
      generalize w.drewN nq = w1 at hq ⊢
      go_wp2
      refine bodyPost_ret (v := .tuple #[.int .i64 (0), .int .i64 (0)]) (by simp [results, Tryz.results161, go_sem]) rfl ⟨?_, by assumption⟩
      rw [HO.out, show oneK (s.data.toList.drop at_) ((c.toNat : Int) - 224) 3 = (0, 0) from (by unfold oneK; rw [if_neg (by rw [HL.out]; omega), show 3 - 1 = 2 from rfl, HV.out, HS.out]; rfl)]
  · have hki : (s.size : Int) - (at_ : Int) < 3 := by omega
    have HL := hid (show (s.data.toList.drop at_).length = s.size - at_ by rw [List.length_drop, ← Lib.size_eq])
    go_enter Tryz.func161, Tryz.ntmps161
    go_wp2
    refine bodyPost_ret (v := .tuple #[.int .i64 (0), .int .i64 (0)]) (by simp [results, Tryz.results161, go_sem]) rfl ⟨?_, Below.refl _ _⟩
    rw [HO.out, show oneK (s.data.toList.drop at_) ((c.toNat : Int) - 224) 3 = (0, 0) from (by unfold oneK; rw [if_pos (by rw [HL.out]; omega)])]
set_option maxRecDepth 100000 in
set_option maxHeartbeats 400000 in
theorem One_4 (s : ByteArray) (at_ : Nat) (w : World) (hs : s.size ≤ 1000000) (h : at_ < s.size) (c : UInt8) (hc : s[at_]'h = c) (ck : 240 ≤ (c.toNat : Int)) :
    Calls Tryz.prog 161 #[.string s, .int .i64 at_] w fun e w' => e = .returned (.tuple #[.int .i64 (oneP (s.data.toList.drop at_)).1, .int .i64 (oneP (s.data.toList.drop at_)).2]) ∧ Below w.heap.size w w' := by
  have hcb : (c.toNat : Int) < 256 := by have := c.toNat_lt; omega
  have HO := hid (oneP_of (l := s.data.toList.drop at_) (n0 := (c.toNat : Int) - 240) (k := 4) ((head_at s at_ 0 h).trans hc) (by unfold leadP; rw [if_pos (by omega)]))
  by_cases hk : at_ + 4 ≤ s.size
  · have hka : (0 : Int) ≤ (at_ : Int) := by omega
    have hkb : (at_ : Int) ≤ (at_ : Int) + 4 := by omega
    have hkc : (at_ : Int) + 4 ≤ (s.size : Int) := by omega
    have hsl : ∀ wx : World, (Instr.slice 9 (.string s) (some (.int .i64 (at_ : Int))) (some (.int .i64 ((at_ : Int) + 4))) none).run Tryz.prog wx = .ok (.string (s.extract at_ (at_ + 4))) wx := fun wx => by
        have := run_slice_string (P := Tryz.prog) wx 9 s .i64 .i64 (at_ : Int) ((at_ : Int) + 4) (by kernel_rfl) hka hkb hkc
        rwa [show ((at_ : Int) + 4).toNat = at_ + 4 by omega, show (at_ : Int).toNat = at_ by omega] at this
    have hki : 4 ≤ (s.size : Int) - (at_ : Int) := by omega
    obtain ⟨c1, hc1⟩ : ∃ c, s[at_ + 1]'(by omega) = c := ⟨_, rfl⟩
    have hcb1 : (c1.toNat : Int) < 256 := by have := c1.toNat_lt; omega
    have HC1 := hid ((head_at s at_ 1 (by omega)).trans hc1)
    obtain ⟨c2, hc2⟩ : ∃ c, s[at_ + 2]'(by omega) = c := ⟨_, rfl⟩
    have hcb2 : (c2.toNat : Int) < 256 := by have := c2.toNat_lt; omega
    have HC2 := hid ((head_at s at_ 2 (by omega)).trans hc2)
    obtain ⟨c3, hc3⟩ : ∃ c, s[at_ + 3]'(by omega) = c := ⟨_, rfl⟩
    have hcb3 : (c3.toNat : Int) < 256 := by have := c3.toNat_lt; omega
    have HC3 := hid ((head_at s at_ 3 (by omega)).trans hc3)
    have HL := hid (show (s.data.toList.drop at_).length = s.size - at_ by rw [List.length_drop, ← Lib.size_eq])
    have HT := hid (take_toList s at_ 4)
    obtain ⟨E, hE⟩ : ∃ E, s.extract at_ (at_ + 4) = E := ⟨_, rfl⟩
    rw [hE] at HT hsl
    clear hE
    have hwr : IntKind.i64.wrap ((at_ : Int) + 4) = (at_ : Int) + 4 := by go_arith
    have hwr2 : wrap64 ((at_ : Int) + 4) = (at_ : Int) + 4 := by go_arith
    go_enter Tryz.func161, Tryz.ntmps161
    go_wp2
    go_rounds 4
    generalize hv : (64 * (64 * (64 * ((c.toNat : Int) - 240) + (c1.toNat : Int) % 64) + (c2.toNat : Int) % 64) + (c3.toNat : Int) % 64) = v
    have hnum : numAt (s.data.toList.drop at_) ((c.toNat : Int) - 240) 3 = v := by
      rw [← hv]
      simp only [numAt, HC1.out, HC2.out, HC3.out, Nat.zero_add, Nat.reduceAdd]
    have HV := hid hnum; clear hnum hv
    cases hS : signP v with
    | true =>
      have HS := hid hS
      go_region_held3 (fun w' => Below w.heap.size w w') (first | assumption | exact (Below.refl _ _).drew) (first | (go_at_call 196; refine (Sign_any v _).mono ?_; rintro e w1 ⟨rfl, hb⟩; have hb2 : Below w.heap.size w w1 := Below.trans (by assumption) (hb.mono (Below.size (by assumption)))) | (go_at_call 197; refine (Bytes_any v _ hS).mono ?_; rintro e w1 ⟨rfl, hb⟩; have hb2 : Below w.heap.size w w1 := Below.trans (by assumption) (hb.mono (Below.size (by assumption)))))
      cases hB : (encodeRune v == E.toList) with
      | true =>
        have HB := hid hB
        go_wp2
        refine bodyPost_ret (v := .tuple #[.int .i64 (v), .int .i64 (4)]) (by simp [results, Tryz.results161, go_sem]) rfl ⟨?_, by assumption⟩
        rw [HO.out, show oneK (s.data.toList.drop at_) ((c.toNat : Int) - 240) 4 = (v, 4) from (by unfold oneK; rw [if_neg (by rw [HL.out]; omega), show 4 - 1 = 3 from rfl, HV.out, HS.out, ← HT.out, HB.out]; rfl)]
      | false =>
        have HB := hid hB
        go_wp2
        refine bodyPost_ret (v := .tuple #[.int .i64 (0), .int .i64 (0)]) (by simp [results, Tryz.results161, go_sem]) rfl ⟨?_, by assumption⟩
        rw [HO.out, show oneK (s.data.toList.drop at_) ((c.toNat : Int) - 240) 4 = (0, 0) from (by unfold oneK; rw [if_neg (by rw [HL.out]; omega), show 4 - 1 = 3 from rfl, HV.out, HS.out, ← HT.out, HB.out]; rfl)]
    | false =>
      have HS := hid hS
      go_quiet ((go_at_call 196; exact Calls.quiet_of_same (Sign_same v _)))
      have hq := below_drewN (n := nq) (Below.refl w.heap.size w)
      generalize w.drewN nq = w1 at hq ⊢
      go_wp2
      refine bodyPost_ret (v := .tuple #[.int .i64 (0), .int .i64 (0)]) (by simp [results, Tryz.results161, go_sem]) rfl ⟨?_, by assumption⟩
      rw [HO.out, show oneK (s.data.toList.drop at_) ((c.toNat : Int) - 240) 4 = (0, 0) from (by unfold oneK; rw [if_neg (by rw [HL.out]; omega), show 4 - 1 = 3 from rfl, HV.out, HS.out]; rfl)]
  · have hki : (s.size : Int) - (at_ : Int) < 4 := by omega
    have HL := hid (show (s.data.toList.drop at_).length = s.size - at_ by rw [List.length_drop, ← Lib.size_eq])
    go_enter Tryz.func161, Tryz.ntmps161
    go_wp2
    refine bodyPost_ret (v := .tuple #[.int .i64 (0), .int .i64 (0)]) (by simp [results, Tryz.results161, go_sem]) rfl ⟨?_, Below.refl _ _⟩
    rw [HO.out, show oneK (s.data.toList.drop at_) ((c.toNat : Int) - 240) 4 = (0, 0) from (by unfold oneK; rw [if_pos (by rw [HL.out]; omega)])]
theorem One_any (s : ByteArray) (at_ : Nat) (w : World) (hs : s.size ≤ 1000000) (h : at_ < s.size) :
    Calls Tryz.prog 161 #[.string s, .int .i64 at_] w fun e w' => e = .returned (.tuple #[.int .i64 (oneP (s.data.toList.drop at_)).1, .int .i64 (oneP (s.data.toList.drop at_)).2]) ∧ Below w.heap.size w w' := by
  by_cases c4 : 240 ≤ ((s[at_]'h).toNat : Int)
  · exact One_4 s at_ w hs h _ rfl c4
  by_cases c3 : 224 ≤ ((s[at_]'h).toNat : Int)
  · exact One_3 s at_ w hs h _ rfl (by omega) c3
  by_cases c2 : 192 ≤ ((s[at_]'h).toNat : Int)
  · exact One_2 s at_ w hs h _ rfl (by omega) c2
  exact One_1 s at_ w hs h _ rfl (by omega)
end Go.Proofs.YtiinnnbpbnojgaaGreatDoor
