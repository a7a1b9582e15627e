import Derived.Test.YtccjfoldjbmnfaaDoorRb
namespace Go.Proofs.YtccjfoldjbmnfaaDoor
open Go Go.RowKit Go.Lib
set_option linter.unusedSimpArgs false

theorem ownsRow_below {w w' : World} {base : Nat} {e : TypeId} {size : Nat} {v : Value} {n : Nat} {xs : List Value} (h : w.ownsRow base e size v n xs) (hb : Below w.heap.size w w') : w'.ownsRow base e size v n xs := by
  obtain ⟨h1, h2⟩ := h
  refine ⟨h1, ?_⟩
  rcases h2 with h2 | ⟨g, cap, cur, hv, hg, hh, r⟩
  · exact Or.inl h2
  · exact Or.inr ⟨g, cap, cur, hv, hg, heap_below hh hb, r⟩

def runesZ (l : List UInt8) : List Int := (runes l).map fun n : Nat => (n : Int)
theorem runesZ_step (l : List UInt8) (hne : l ≠ []) : runesZ l = ((decodeL l).1 : Int) :: runesZ (l.drop (decodeL l).2) := by
  unfold runesZ
  rw [runes_step l hne, List.map_cons]
/-- A text's signs; what is told of one that is not right. -/
def signsP (l : List UInt8) : List Int × Int := if validD l then (runesZ l, 0) else ([], 40)

theorem info_int : (Tryd.prog.info? 3).map (fun i => (i.zero, i.size, i.bytes)) = some (some (.int .i64 0), 1, 8) := by kernel_rfl

/-- One sign of a right text. -/
theorem one_good (l : List UInt8) (hne : l ≠ []) (h : (oneP l).2 ≠ 0) : ∃ (r k : Nat), oneP l = ((r : Int), (k : Int)) ∧ 1 ≤ k ∧ k ≤ l.length ∧ r ≤ 1114111 ∧ validD l = validD (l.drop k) ∧ runesZ l = (r : Int) :: runesZ (l.drop k) := by
  have hd := oneP_decode l hne
  by_cases hb : (decodeL l).1 = 65533 ∧ (decodeL l).2 = 1
  · rw [if_pos hb] at hd; rw [hd] at h; exact absurd rfl h
  · rw [if_neg hb] at hd
    exact ⟨_, _, hd, decodeL_width l, decodeL_le l hne, decodeL_rune l, by rw [validD_step l hne, if_neg hb], runesZ_step l hne⟩
theorem one_bad (l : List UInt8) (hne : l ≠ []) (h : (oneP l).2 = 0) : oneP l = (0, 0) ∧ validD l = false := by
  have hd := oneP_decode l hne
  have hw := decodeL_width l
  by_cases hb : (decodeL l).1 = 65533 ∧ (decodeL l).2 = 1
  · rw [if_pos hb] at hd
    exact ⟨hd, by rw [validD_step l hne, if_pos hb]⟩
  · rw [if_neg hb] at hd
    rw [hd] at h
    simp only at h
    omega

set_option maxRecDepth 100000 in
set_option maxHeartbeats 400000 in
theorem Signs_any (s : ByteArray) (w : World) (hs : s.size ≤ 1000000) :
    Calls Tryd.prog 40 #[.string s] w fun e w' => ∃ v, e = .returned (.tuple #[v, .int .i64 (signsP s.data.toList).2]) ∧ w'.ownsRow w.heap.size 3 1 v (signsP s.data.toList).1.length ((signsP s.data.toList).1.map (Value.int .i64)) ∧ (signsP s.data.toList).1.length ≤ s.size ∧ Below w.heap.size w w' := by
  obtain ⟨i0, hi, hz0, hz1, hz2⟩ := info_parts info_int
  have hu : Tryd.prog.underlying 62 = some (.slice 3) := by kernel_rfl
  have HU := hid hu; clear hu
  go_enter Tryd.func40, Tryd.ntmps40
  go_wp2
  go_loopw [4, 5] (fun v i wr => ∃ (k : Nat) (rs : List Int), k ≤ s.size ∧ i = .int .i64 k ∧ wr.ownsRow w.heap.size 3 1 v rs.length (rs.map (Value.int .i64)) ∧ rs.length ≤ k ∧ Below w.heap.size w wr ∧ Hid (runesZ s.data.toList = rs ++ runesZ (s.data.toList.drop k)) ∧ Hid (validD s.data.toList = validD (s.data.toList.drop k))) (fun _ i _ => s.size - (intOf i).toNat)
  case atStart => exact ⟨0, [], by omega, rfl, World.ownsRow_nil _ _ _ _, by simp, Below.refl _ _, hid rfl, hid rfl⟩
  case round =>
    obtain ⟨k, rs, hk, rfl, hown, hrs, hb, HR, HV⟩ := hrel
    by_cases hlt : k < s.size
    · have hlti : (k : Int) < (s.size : Int) := by omega
      have hne := drop_ne s k hlt
      by_cases hz : (oneP (s.data.toList.drop k)).2 = 0
      · obtain ⟨e1, e2⟩ := one_bad _ hne hz
        have E1 := hid e1; have E2 := hid e2; clear e1 e2 hz hne
        go_wp2_with fail
        refine (One_any s k wr hs hlt).mono ?_
        rw [E1.out]
        rintro e w1 ⟨rfl, hb1⟩
        have hb2 := hb.trans (hb1.mono hb.size)
        go_wp2
        refine bodyPost_ret (v := .tuple #[.slice none 0 0, .int .i64 40]) (by simp [results, Tryd.results40, go_sem]) rfl ⟨.slice none 0 0, ?_⟩
        rw [show signsP s.data.toList = ([], 40) from (by unfold signsP; rw [HV.out, E2.out]; rfl)]
        exact ⟨rfl, World.ownsRow_nil _ _ _ _, by simp, hb2⟩
      · obtain ⟨r, m, e1, h1, h2, h3, e2, e3⟩ := one_good _ hne hz
        have h2' : k + m ≤ s.size := by rw [List.length_drop, ← Lib.size_eq] at h2; omega
        have HR' := hid (show runesZ s.data.toList = (rs ++ [(r : Int)]) ++ runesZ (s.data.toList.drop (k + m)) by rw [HR.out, e3, List.append_assoc, List.drop_drop]; rfl)
        have HV' := hid (show validD s.data.toList = validD (s.data.toList.drop (k + m)) by rw [HV.out, e2, List.drop_drop])
        have E1 := hid e1
        clear e1 e2 e3 h2 hz hne HR HV
        go_wp2_with fail
        refine (One_any s k wr hs hlt).mono ?_
        rw [E1.out]
        rintro e w1 ⟨rfl, hb1⟩
        have hb2 := hb.trans (hb1.mono hb.size)
        have hown1 := ownsRow_below hown hb1
        clear hown hb hb1
        have hm0 : ¬ (m : Int) = 0 := by omega
        go_wp2_with (first
          | (at_builtin; refine wpList_append_own _ rfl _ _ 62 rfl w.heap.size 3 i0 (.int .i64 0) 1 8 HU.out hi hz0 hz1 hz2 rfl (by decide) _ _ _ rfl (hown1.alloc _) ⟨w1.heap.size, 0, none⟩ 1 1 [.int .i64 (r : Int)] rfl rfl ?c1 ?c2 ?c3 ?c4 ?c5 ?_)
          | go_in)
        case c1 =>
          intro j u hj
          match j, hj with
          | 0, hj => simp at hj; subst hj; simp [Addr.add]
        case c2 => intro u hu; simp at hu; subst hu; rfl
        case c3 => unfold maxLen; omega
        case c4 => omega
        case c5 => have := hb2.size; simp; omega
        · intro v' w2 hown2 hgrow _
          have hb3 : Below w.heap.size w w2 := (hb2.alloc hb2.size _).grown hgrow (by have := hb2.size; simp; omega) (fun j hj => (hown1.lt j hj).1)
          have hown3 : w2.ownsRow w.heap.size 3 1 v' (rs ++ [(r : Int)]).length ((rs ++ [(r : Int)]).map (Value.int .i64)) := by simpa using hown2
          clear hown2 hgrow hown1 hb2
          go_wp2
          go_roundw
          case rel => exact ⟨k + m, rs ++ [(r : Int)], h2', by go_num, hown3, by simp; omega, hb3, HR', HV'⟩
          case measure => simp [intOf]; omega
    · have hge : (s.size : Int) ≤ (k : Int) := by omega
      have hke : s.data.toList.drop k = [] := List.drop_eq_nil_of_le (by rw [← Lib.size_eq]; omega)
      have e1 := HR.out
      have e2 := HV.out
      rw [hke] at e1 e2
      have ES := hid (show signsP s.data.toList = (rs, 0) by
        unfold signsP
        rw [e2, e1]
        show (rs ++ [], (0 : Int)) = _
        rw [List.append_nil])
      clear e1 e2 hke HR HV
      go_wp2
      refine bodyPost_ret (v := .tuple #[u4, .int .i64 0]) (by simp [results, Tryd.results40, go_sem]) rfl ⟨u4, ?_⟩
      rw [ES.out]
      exact ⟨rfl, hown, by show rs.length ≤ s.size; omega, hb⟩

set_option maxRecDepth 100000 in
theorem refRight04_any (s : ByteArray) (w : World) (hs : s.size ≤ 1000000) :
    Calls Tryd.prog 27 #[.string s] w fun e w' => e = .returned (.bool (validD s.data.toList)) ∧ Below w.heap.size w w' := by
  cases hv : validD s.data.toList with
  | true =>
    have HS := hid (show (signsP s.data.toList).2 = 0 by unfold signsP; rw [hv]; rfl)
    clear hv
    go_enter Tryd.func27, Tryd.ntmps27
    go_wp2_with fail
    refine (Signs_any s w hs).mono ?_
    rw [HS.out]
    rintro e w1 ⟨v, rfl, _, _, hb⟩
    go_wp2
    go_ret
    exact ⟨rfl, hb⟩
  | false =>
    have HS := hid (show (signsP s.data.toList).2 = 40 by unfold signsP; rw [hv]; rfl)
    clear hv
    go_enter Tryd.func27, Tryd.ntmps27
    go_wp2_with fail
    refine (Signs_any s w hs).mono ?_
    rw [HS.out]
    rintro e w1 ⟨v, rfl, _, _, hb⟩
    go_wp2
    go_ret
    exact ⟨rfl, hb⟩
end Go.Proofs.YtccjfoldjbmnfaaDoor
