import Derived.Test.YtccjfoldjbmnfaaDoorWa
import Derived.Deep.QuietTactic
import Derived.BigQuiet
import Derived.WalkMore
namespace Go.Proofs.YtccjfoldjbmnfaaDoor
open Go Go.RowKit Go.Lib

def flowB : ByteArray := ⟨#[44, 91, 93, 123, 125]⟩
theorem flowB_size : flowB.size = 5 := rfl
theorem flowB_dec : ∀ p, p < 5 → (Utf8.decode flowB p).2 = 1 ∧ (Utf8.decode flowB p).1 < 128 := by decide +kernel

set_option maxRecDepth 100000 in
set_option maxHeartbeats 400000 in
theorem IndexRune_err (w : World) :
    Calls Tryd.prog 58 #[.string flowB, .int .i32 65533] w fun e w' => e = .returned (.int .i64 (-1)) ∧ Below w.heap.size w w' := by
  go_enter Tryd.func58, Tryd.ntmps58
  go_wp2
  go_loopw [4] (fun r wr => r = .int .i64 0 ∧ ∃ pos, pos ≤ 5 ∧ wr = w.iter flowB pos) (fun _ wr => 5 - wr.iterPos w.heap.size)
  case atStart => exact ⟨rfl, 0, by omega, rfl⟩
  case round =>
    obtain ⟨rfl, pos, hp, rfl⟩ := hrel
    by_cases hlt : pos < 5
    · have hnx := fun ty => run_next_any (P := Tryd.prog) w flowB pos ty (by rw [flowB_size]; exact hlt)
      obtain ⟨h1, h2⟩ := flowB_dec pos hlt
      have h3 : ((Utf8.decode flowB pos).1 : Int) < 128 := by omega
      rw [h1] at hnx
      clear h1 h2
      go_wp2
      go_roundw
      case rel => exact ⟨rfl, _, hlt, rfl⟩
      case measure => rw [World.iterPos_iter, World.iterPos_iter]; omega
    · have hnx := fun ty => run_next_end (P := Tryd.prog) w flowB pos ty (by rw [flowB_size]; exact hlt)
      go_wp2
      go_ret
      exact ⟨rfl, (Below.refl _ w).alloc (Nat.le_refl _) _⟩

theorem encode_forms (r : Int) (h0 : 128 ≤ r) (h1 : r ≤ 1114111) : ∃ (l : List UInt8) (b : UInt8), Utf8.encode r = ⟨(l ++ [b]).toArray⟩ ∧ 1 ≤ l.length ∧ l.length ≤ 3 ∧ 128 ≤ b.toNat := by
  have key : ∀ c : Nat, 128 ≤ c → c ≤ 1114111 → ∃ (l : List UInt8) (b : UInt8), (if c < 0x80 then (⟨#[UInt8.ofNat c]⟩ : ByteArray)
      else if c < 0x800 then ⟨#[UInt8.ofNat (0xC0 + c / 64), UInt8.ofNat (0x80 + c % 64)]⟩
      else if c < 0x10000 then ⟨#[UInt8.ofNat (0xE0 + c / 4096), UInt8.ofNat (0x80 + c / 64 % 64), UInt8.ofNat (0x80 + c % 64)]⟩
      else ⟨#[UInt8.ofNat (0xF0 + c / 262144), UInt8.ofNat (0x80 + c / 4096 % 64), UInt8.ofNat (0x80 + c / 64 % 64), UInt8.ofNat (0x80 + c % 64)]⟩) = ⟨(l ++ [b]).toArray⟩ ∧ 1 ≤ l.length ∧ l.length ≤ 3 ∧ 128 ≤ b.toNat := by
    intro c hc0 hc1
    have hb : 128 ≤ (UInt8.ofNat (0x80 + c % 64)).toNat := by rw [UInt8.toNat_ofNat']; omega
    rw [if_neg (by omega)]
    split
    · exact ⟨[_], _, rfl, by simp, by simp, hb⟩
    · split
      · exact ⟨[_, _], _, rfl, by simp, by simp, hb⟩
      · exact ⟨[_, _, _], _, rfl, by simp, by simp, hb⟩
  unfold Utf8.encode
  by_cases hv : Utf8.valid r = true
  · simp only [hv, if_true]
    exact key r.toNat (by omega) (by omega)
  · simp only [hv]
    exact key Utf8.runeError (by decide) (by decide)

theorem indexByte_none {b : UInt8} : ∀ {l : List UInt8}, (∀ c ∈ l, c ≠ b) → Lib.indexByte l b = -1
  | [], _ => rfl
  | c :: l, h => by
    have h1 : (c == b) = false := by simpa using h c (by simp)
    simp [Lib.indexByte, h1, indexByte_none (l := l) (fun d hd => h d (by simp [hd]))]

theorem noFlow (b : UInt8) (h : 128 ≤ b.toNat) (k : Nat) (_ : k ≤ 5) : Lib.indexByte (flowB.extract k 5).data.toList b = -1 := by
  refine indexByte_none (fun c hc => ?_)
  have hc' : c ∈ flowB.data.toList := by
    rw [Lib.extract_data] at hc
    exact List.mem_of_mem_drop (List.mem_of_mem_take hc)
  have : ∀ c ∈ flowB.data.toList, c.toNat < 128 := by decide
  have := this c hc'
  rintro rfl
  omega

theorem IndexByte_none (s : ByteArray) (b : UInt8) (w : World) (h : Lib.indexByte s.data.toList b = -1) :
    Calls Tryd.prog 35 #[.string s, .int .u8 b.toNat] w fun e w' => e = .returned (.int .i64 (-1)) ∧ w' = w := by
  refine (Tryd.strings_IndexByte s b.toNat w).mono ?_
  rintro e w' ⟨rfl, rfl⟩
  simp [h]
theorem below_drewN {B n : Nat} {w w' : World} (h : Below B w w') : Below B w (w'.drewN n) := ⟨h.os, h.tape, h.output, h.size, h.block⟩

set_option maxRecDepth 100000 in
set_option maxHeartbeats 400000 in
theorem IndexRune_high (r : Int) (w : World) (h0 : 128 ≤ r) (h1 : r ≤ 1114111) (h2 : r ≠ 65533) (hv : Lib.validRune r = true) :
    Calls Tryd.prog 58 #[.string flowB, .int .i32 r] w fun e w' => e = .returned (.int .i64 (-1)) ∧ Below w.heap.size w w' := by
  have hr : (r == 65533) = false := by simpa using h2
  have hr0 : (0 : Int) ≤ r := by omega
  have hr2 : ¬ r < 128 := by omega
  have HV := hid hv; clear hv
  obtain ⟨l, b, he, hl1, hl3, hb⟩ := encode_forms r h0 h1
  have HE := hid he; clear he
  go_enter Tryd.func58, Tryd.ntmps58
  go_wp2_with fail
  refine (Tryd.utf8_ValidRune r w).mono ?_
  rintro e w1 ⟨rfl, hw1⟩
  subst hw1
  rw [HV.out]
  go_wp2
  go_step3
  have he := HE.out
  match l, hl1, hl3 with
  | [a], _, _ =>
    simp only [List.cons_append, List.nil_append] at he
    go_wp2
    refine wp_loop_rounds 1 ?_
    rw [rounds_succ]
    clear he
    have hf : ((flowB[1]'(by decide)).toNat : Int) = 91 := rfl
    have hE : (⟨#[a, b]⟩ : ByteArray)[1]'(by show 1 < 1 + 1; decide) = b := rfl
    have hz : flowB.size = 5 := rfl
    have hbb : (128 : Int) ≤ b.toNat := by omega
    have hw : IntKind.i64.wrap 2 = 2 := by decide
    have HN := noFlow b hb 2 (by omega)
    go_wp2
    go_step3
    go_wp2
    go_quiet (fail)
    go_wp2
    have hb2 := below_drewN (n := nq) (Below.refl w1.heap.size w1)
    generalize w1.drewN nq = w2 at hb2 ⊢
    go_quiet ((go_at_call 35; exact Calls.quiet_of_same (IndexByte_none _ _ _ HN)))
    go_wp2
    simp only [Exit.noGoto_ret, Exit.inBlock, Exit.then]
    go_ret
    exact ⟨rfl, below_drewN hb2⟩
  | [a, a2], _, _ =>
    simp only [List.cons_append, List.nil_append] at he
    go_wp2
    refine wp_loop_rounds 1 ?_
    rw [rounds_succ]
    clear he
    have hf : ((flowB[2]'(by decide)).toNat : Int) = 93 := rfl
    have hE : (⟨#[a, a2, b]⟩ : ByteArray)[2]'(by show 2 < 2 + 1; decide) = b := rfl
    have hz : flowB.size = 5 := rfl
    have hbb : (128 : Int) ≤ b.toNat := by omega
    have hw : IntKind.i64.wrap 3 = 3 := by decide
    have HN := noFlow b hb 3 (by omega)
    go_wp2
    go_step3
    go_wp2
    go_quiet (fail)
    go_wp2
    have hb2 := below_drewN (n := nq) (Below.refl w1.heap.size w1)
    generalize w1.drewN nq = w2 at hb2 ⊢
    go_quiet ((go_at_call 35; exact Calls.quiet_of_same (IndexByte_none _ _ _ HN)))
    go_wp2
    simp only [Exit.noGoto_ret, Exit.inBlock, Exit.then]
    go_ret
    exact ⟨rfl, below_drewN hb2⟩
  | [a, a2, a3], _, _ =>
    simp only [List.cons_append, List.nil_append] at he
    go_wp2
    refine wp_loop_rounds 1 ?_
    rw [rounds_succ]
    clear he
    have hf : ((flowB[3]'(by decide)).toNat : Int) = 123 := rfl
    have hE : (⟨#[a, a2, a3, b]⟩ : ByteArray)[3]'(by show 3 < 3 + 1; decide) = b := rfl
    have hz : flowB.size = 5 := rfl
    have hbb : (128 : Int) ≤ b.toNat := by omega
    have hw : IntKind.i64.wrap 4 = 4 := by decide
    have HN := noFlow b hb 4 (by omega)
    go_wp2
    go_step3
    go_wp2
    go_quiet (fail)
    go_wp2
    have hb2 := below_drewN (n := nq) (Below.refl w1.heap.size w1)
    generalize w1.drewN nq = w2 at hb2 ⊢
    go_quiet ((go_at_call 35; exact Calls.quiet_of_same (IndexByte_none _ _ _ HN)))
    go_wp2
    simp only [Exit.noGoto_ret, Exit.inBlock, Exit.then]
    go_ret
    exact ⟨rfl, below_drewN hb2⟩

set_option maxRecDepth 100000 in
set_option maxHeartbeats 400000 in
theorem IndexRune_bad (r : Int) (w : World) (h0 : 128 ≤ r) (h2 : r ≠ 65533) (hv : Lib.validRune r = false) :
    Calls Tryd.prog 58 #[.string flowB, .int .i32 r] w fun e w' => e = .returned (.int .i64 (-1)) ∧ Below w.heap.size w w' := by
  have hr : (r == 65533) = false := by simpa using h2
  have hr0 : (0 : Int) ≤ r := by omega
  have hr2 : ¬ r < 128 := by omega
  have HV := hid hv; clear hv
  go_enter Tryd.func58, Tryd.ntmps58
  go_wp2_with fail
  refine (Tryd.utf8_ValidRune r w).mono ?_
  rintro e w1 ⟨rfl, hw1⟩
  subst hw1
  rw [HV.out]
  go_wp2
  go_ret
  exact ⟨rfl, Below.refl _ _⟩

/-- Is a rune among the five signs of flows? -/
def isFlow (r : Nat) : Bool := r == 44 || r == 91 || r == 93 || r == 123 || r == 125

theorem ContainsRune_any (r : Nat) (w : World) (h1 : r ≤ 1114111) :
    Calls Tryd.prog 38 #[.string flowB, .int .i32 r] w fun e w' => e = .returned (.bool (isFlow r)) ∧ Below w.heap.size w w' := by
  by_cases hlt : r < 128
  · refine (Tryd.strings_ContainsRune_ascii flowB r w (by omega) (by omega)).mono ?_
    rintro e w' ⟨rfl, rfl⟩
    refine ⟨?_, Below.refl _ _⟩
    have : ∀ r : Fin 128, decide (0 ≤ Lib.indexByte flowB.data.toList (r.val : Int).toNat.toUInt8) = isFlow r.val := by decide +kernel
    rw [this ⟨r, hlt⟩]
  · have hno : isFlow r = false := by
      unfold isFlow; simp; omega
    have cI : Calls Tryd.prog 58 #[.string flowB, .int .i32 r] w fun e w' => e = .returned (.int .i64 (-1)) ∧ Below w.heap.size w w' := by
      by_cases h2 : r = 65533
      · subst h2; exact IndexRune_err w
      · cases hv : Lib.validRune (r : Int) with
        | true => exact IndexRune_high r w (by omega) (by omega) (by omega) hv
        | false => exact IndexRune_bad r w (by omega) (by omega) hv
    have HI := hid hno
    clear hno
    go_enter Tryd.func38, Tryd.ntmps38
    go_wp2_with fail
    refine cI.mono ?_
    rintro e w' ⟨rfl, hb⟩
    go_wp2
    go_ret
    exact ⟨by rw [HI.out]; rfl, hb⟩
end Go.Proofs.YtccjfoldjbmnfaaDoor
