import Derived.Test.YtccjfoldjbmnfaaDoorRc
namespace Go.Proofs.YtccjfoldjbmnfaaDoor
open Go Go.RowKit Go.Lib
set_option linter.unusedSimpArgs false

theorem getElem_list (s : ByteArray) (k : Nat) (h : k < s.size) : s.data.toList[k]'(by rw [← Lib.size_eq]; exact h) = s[k]'h := rfl

def amongB (l : List UInt8) (c : UInt8) : Bool := l.contains c
theorem amongB_iff {l : List UInt8} {c : UInt8} : amongB l c = true ↔ c ∈ l := List.contains_iff_mem
theorem contains_take {l : List UInt8} {c : UInt8} {k : Nat} (h : k < l.length) : amongB (l.take (k + 1)) c = (amongB (l.take k) c || c == l[k]) := by
  unfold amongB
  rw [Bool.eq_iff_iff, List.contains_iff_mem, List.take_succ_eq_append_getElem h, List.mem_append, List.mem_singleton, Bool.or_eq_true, List.contains_iff_mem, beq_iff_eq]

set_option maxRecDepth 100000 in
theorem Among_same (c : UInt8) (s : ByteArray) (w : World) (hs : s.size ≤ 1000000) :
    Calls Tryd.prog 18 #[.int .u8 c.toNat, .string s] w fun e w' => e = .returned (.bool (amongB s.data.toList c)) ∧ w' = w := by
  go_enter Tryd.func18, Tryd.ntmps18
  go_wp2
  go_loop [5] (fun i => ∃ k : Nat, k ≤ s.size ∧ i = .int .i64 k ∧ Hid (amongB (s.data.toList.take k) c = false)) (fun i => s.size - (intOf i).toNat)
  case atStart => exact ⟨0, by omega, rfl, hid rfl⟩
  case round =>
    obtain ⟨k, hk, rfl, HI⟩ := hrel
    by_cases hlt : k < s.size
    · have hlti : (k : Int) < (s.size : Int) := by omega
      obtain ⟨d, hd⟩ : ∃ d, s[k]'hlt = d := ⟨_, rfl⟩
      have hT := hid (contains_take (l := s.data.toList) (c := c) (k := k) (by rw [← Lib.size_eq]; exact hlt))
      have HD := hid ((getElem_list s k hlt).trans hd)
      cases he : ((d.toNat : Int) == (c.toNat : Int)) with
      | true =>
        have hdc : c = d := by
          have : (d.toNat : Int) = (c.toNat : Int) := by simpa using he
          exact (UInt8.toNat_inj.1 (by omega : d.toNat = c.toNat)).symm
        have HF := hid (show amongB s.data.toList c = true by
          have h1 := hT.out
          rw [HD.out, hdc] at h1
          simp only [BEq.rfl, Bool.or_true] at h1
          rw [amongB_iff] at h1 ⊢
          exact List.mem_of_mem_take (hdc ▸ h1))
        clear hdc hT HI
        go_wp2
        go_ret
        exact ⟨by rw [HF.out]; rfl, rfl⟩
      | false =>
        have hdc : (c == d) = false := by
          have : ¬ (d.toNat : Int) = (c.toNat : Int) := by simpa using he
          cases hcd : (c == d) with
          | false => rfl
          | true => exact absurd (by rw [eq_of_beq hcd]) this
        have HI' := hid (show amongB (s.data.toList.take (k + 1)) c = false by rw [hT.out, HI.out, HD.out, hdc]; rfl)
        clear hdc hT HI
        go_wp2
        go_round
        case rel => exact ⟨k + 1, by omega, by go_num, HI'⟩
        case measure => simp [intOf]; omega
    · have hge : (s.size : Int) ≤ (k : Int) := by omega
      have HF := hid (show amongB s.data.toList c = false by
        have h := HI.out
        rwa [List.take_of_length_le (by rw [← Lib.size_eq]; omega)] at h)
      go_wp2
      go_ret
      exact ⟨by rw [HF.out]; rfl, rfl⟩

theorem Digit_same (c : UInt8) (w : World) :
    Calls Tryd.prog 32 #[.int .u8 c.toNat] w fun e w' => e = .returned (.bool (isDigB c)) ∧ w' = w := by
  go_enter Tryd.func32, Tryd.ntmps32
  go_wp2
  all_goals (go_ret; refine ⟨?_, rfl⟩)
  all_goals (refine congrArg (fun b => Ending.returned (Value.bool b)) (?_ : _ = isDigB c); unfold isDigB; rw [Bool.eq_iff_iff]; simp; omega)

theorem refPlain_same (n : Int) (w : World) :
    Calls Tryd.prog 41 #[.int .i64 n] w fun e w' => e = .returned (.bool (plainN n)) ∧ w' = w := by
  go_enter Tryd.func41, Tryd.ntmps41
  go_wp2
  all_goals (go_ret; refine ⟨?_, rfl⟩)
  all_goals (refine congrArg (fun b => Ending.returned (Value.bool b)) (?_ : _ = plainN n); unfold plainN; rw [Bool.eq_iff_iff]; simp; omega)

/-- Is a text right, all its signs plain? -/
def plainR (l : List UInt8) : Bool := (signsP l).1.all plainN && (signsP l).2 == 0

theorem all_take {zs : List Int} {k : Nat} (h : k < zs.length) : (zs.take (k + 1)).all plainN = ((zs.take k).all plainN && plainN zs[k]) := by
  rw [List.take_succ_eq_append_getElem h, List.all_append]
  simp
theorem all_false {zs : List Int} {k : Nat} (h : k < zs.length) (hz : plainN zs[k] = false) : zs.all plainN = false := by
  rw [← Bool.not_eq_true, List.all_eq_true]
  intro h2
  have := h2 _ (List.getElem_mem h)
  rw [hz] at this; cases this

set_option maxRecDepth 100000 in
set_option maxHeartbeats 400000 in
theorem plainR_any (s : ByteArray) (w : World) (hs : s.size ≤ 1000000) :
    Calls Tryd.prog 26 #[.string s] w fun e w' => e = .returned (.bool (plainR s.data.toList)) ∧ Below w.heap.size w w' := by
  have HP : Hid (plainR s.data.toList = ((signsP s.data.toList).1.all plainN && (signsP s.data.toList).2 == 0)) := hid rfl
  obtain ⟨zs, hzs⟩ : ∃ zs, (signsP s.data.toList).1 = zs := ⟨_, rfl⟩
  obtain ⟨er, her⟩ : ∃ er, (signsP s.data.toList).2 = er := ⟨_, rfl⟩
  have hP := HP.out
  rw [hzs, her] at hP
  have HP2 := hid hP; clear hP HP
  have hS := Signs_any s w hs
  rw [hzs, her] at hS
  clear hzs her
  go_enter Tryd.func26, Tryd.ntmps26
  go_wp2_with fail
  refine hS.mono ?_
  clear hS
  rintro e w1 ⟨v, rfl, hown, hlen, hb⟩
  obtain ⟨ho1, ⟨rfl, ho2⟩ | ⟨g, cap, cur, rfl, hg, hh, hn1, hn2, hn3, hn4⟩⟩ := id hown
  · have hz0 : zs = [] := by simpa using ho2
    subst hz0
    clear ho1 ho2 hown
    go_wp2
    go_rounds 1
    go_ret
    exact ⟨by rw [HP2.out]; rfl, hb⟩
  · have hcell : ∀ k (h : k < zs.length), w1.cell? ⟨g, k, none⟩ = some (.int .i64 zs[k]) := fun k h => by
      rw [hown.cellAt k (by omega)]; simp [h]
    have HC := hid hcell
    clear ho1 hn3 hn4 hh hcell hown
    go_wp2
    go_loop [5] (fun i => ∃ k : Nat, k ≤ zs.length ∧ i = .int .i64 k ∧ Hid ((zs.take k).all plainN = true)) (fun i => zs.length - (intOf i).toNat)
    case atStart => exact ⟨0, by omega, rfl, hid rfl⟩
    case round =>
      obtain ⟨k, hk, rfl, HI⟩ := hrel
      by_cases hlt : k < zs.length
      · have hlti : (k : Int) < (zs.length : Int) := by omega
        have hc := HC.out k hlt
        have HT := hid (all_take hlt)
        have HF := hid (all_false hlt)
        obtain ⟨z, hz⟩ : ∃ z, zs[k]'hlt = z := ⟨_, rfl⟩
        rw [hz] at hc
        have HZ := hid hz; clear hz
        cases hp : plainN z with
        | true =>
          have HI' := hid (show (zs.take (k + 1)).all plainN = true by rw [HT.out, HI.out, HZ.out, hp]; rfl)
          go_wp2_with fail
          refine (refPlain_same z _).mono ?_
          rintro e w2 ⟨rfl, rfl⟩
          go_wp2
          go_round
          case rel => exact ⟨k + 1, by omega, by go_num, HI'⟩
          case measure => simp [intOf]; omega
        | false =>
          have HF' := hid (HF.out (by rw [HZ.out, hp]))
          go_wp2_with fail
          refine (refPlain_same z _).mono ?_
          rintro e w2 ⟨rfl, rfl⟩
          go_wp2
          go_ret
          exact ⟨by rw [HP2.out, HF'.out]; rfl, hb⟩
      · have hge : (zs.length : Int) ≤ (k : Int) := by omega
        have HF := hid (show zs.all plainN = true by
          have h := HI.out
          rwa [List.take_of_length_le (by omega)] at h)
        go_wp2
        go_ret
        exact ⟨by rw [HP2.out, HF.out]; rfl, hb⟩
end Go.Proofs.YtccjfoldjbmnfaaDoor
