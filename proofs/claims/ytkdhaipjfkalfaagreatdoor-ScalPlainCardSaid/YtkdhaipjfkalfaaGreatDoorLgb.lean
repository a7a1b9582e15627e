import Derived.Test.YtkdhaipjfkalfaaGreatDoorLga
import Derived.Deep.RegionHeldLaw
import Derived.Deep.AppendLies
import Derived.Deep.DrawnRows
/- What is proved: law 06's Cut and Few. -/
namespace Go.Proofs.YtkdhaipjfkalfaaGreatDoor
open Go Go.RowKit Go.Lib Go.Sort
set_option linter.unusedSimpArgs false
set_option linter.unusedVariables false

set_option maxRecDepth 100000 in
set_option maxHeartbeats 2000000 in
theorem Cut_any (x : Sc) (w : World) :
    Calls Tryz.prog 12 #[scV x] w fun e w' => e = .returned (scV (cutS x)) ∧ Below w.heap.size w w' := by
  obtain ⟨k, n, s⟩ := x
  unfold scV cutS
  simp only
  obtain ⟨N, hN⟩ : ∃ N, w.heap.size = N := ⟨_, rfl⟩
  have hb0 : Below N w ((w.alloc (.cells #[.int .i64 k, .int .i64 n, .string s] 23)).alloc (.cells #[.int .i64 0, .int .i64 0, .string ⟨#[]⟩] 23)) := ((Below.refl N w).alloc (by omega) _).alloc (by simp; omega) _
  have hC := fun wx => cut_same s wx
  obtain ⟨S, hS⟩ : ∃ S, cut6 s = S := ⟨_, rfl⟩
  rw [hS] at hC ⊢
  have hx := World.alloc_heap_new w (.cells #[.int .i64 k, .int .i64 n, .string s] 23)
  have hx2 := heap_below hx ((Below.refl _ _).alloc (Nat.le_refl _) (.cells #[.int .i64 0, .int .i64 0, .string ⟨#[]⟩] 23))
  have hy := World.alloc_heap_new (w.alloc (.cells #[.int .i64 k, .int .i64 n, .string s] 23)) (.cells #[.int .i64 0, .int .i64 0, .string ⟨#[]⟩] 23)
  rw [World.size_alloc, hN] at hy
  rw [hN] at hx2
  rw [hN]
  obtain ⟨W, hW⟩ : ∃ W, (w.alloc (.cells #[.int .i64 k, .int .i64 n, .string s] 23)).alloc (.cells #[.int .i64 0, .int .i64 0, .string ⟨#[]⟩] 23) = W := ⟨_, rfl⟩
  rw [hW] at hx2 hy hb0
  have HW := hid hW
  clear hW hx hS
  go_enter Tryz.func12, Tryz.ntmps12
  go_wp2
  rw [HW.out]
  obtain ⟨c0, c1, c2, f0, f1, f2⟩ := blk3 hx2
  obtain ⟨d0, d1, d2, g0, g1, g2⟩ := blk3 hy
  have hne : N ≠ N + 1 := by omega
  go_region_held3 (fun w' => w'.cell? ⟨N, 0, none⟩ = some (.int .i64 k) ∧ w'.cell? ⟨N, 1, none⟩ = some (.int .i64 n) ∧ w'.cell? ⟨N, 2, none⟩ = some (.string s)) (first | go_keep)
    (first | (go_at_call 13; refine (hC _).mono ?_; rintro e wz ⟨rfl, hw⟩; subst wz))
  have hz := set_blk3 hy (.int .i64 k) (.int .i64 n) (.string S)
  obtain ⟨e0, e1, e2, _⟩ := blk3 hz
  have hb1 := (((hb0.setCell (p := ⟨N + 1, 0, none⟩) (by simp) (.int .i64 k)).setCell (p := ⟨N + 1, 1, none⟩) (by simp) (.int .i64 n)).setCell (p := ⟨N + 1, 2, none⟩) (by simp) (.string S)).drew
  have HB := hid hb1
  clear hb1 hz c0 c1 c2 d0 d1 d2
  go_wp2
  refine bodyPost_ret (v := .agg #[.int .i64 k, .int .i64 n, .string S]) (by simp [results, Tryz.results12, go_sem, e0, e1, e2]) rfl ?_
  exact ⟨rfl, HB.out⟩

def fewS (xs : List Sc) : List Sc := (xs.take 30).map cutS
theorem few_len (xs : List Sc) : (fewS xs).length ≤ 30 := by unfold fewS; rw [List.length_map, List.length_take]; omega
theorem cut_take {xs : List Sc} {k : Nat} (h : k < xs.length) : (xs.take (k + 1)).map cutS = (xs.take k).map cutS ++ [cutS (xs.getD k sc0)] := by
  rw [List.take_succ_eq_append_getElem h, List.map_append]
  simp [List.getD, List.getElem?_eq_getElem h]
def FewPost (xs : List Sc) (w : World) (e : Ending) (w' : World) : Prop := ∃ u, e = .returned u ∧ OwnS w' w.heap.size u (fewS xs) ∧ Below w.heap.size w w'

set_option maxRecDepth 100000 in
set_option maxHeartbeats 4000000 in
theorem Few_any (v : Value) (xs : List Sc) (w : World) (hx : ScIn w v xs) :
    Calls Tryz.prog 20 #[v] w (FewPost xs w) := by
  obtain ⟨A, ca, rfl, hA⟩ := hx
  have HA := hid hA
  obtain ⟨n, hn⟩ : ∃ n, xs.length = n := ⟨_, rfl⟩
  rw [hn] at HA ⊢
  have HN := hid hn
  clear hA hn
  go_enter Tryz.func20, Tryz.ntmps20
  go_wp2
  go_loopw [3, 4] (fun o i wr => ∃ k : Nat, k ≤ n ∧ k ≤ 30 ∧ i = .int .i64 k ∧ OwnS wr w.heap.size o ((xs.take k).map cutS) ∧ Below w.heap.size w wr) (fun _ i _ => 30 - (intOf i).toNat)
  case atStart => exact ⟨0, by omega, by omega, rfl, World.ownsRow_nil _ _ _ _, Below.refl _ _⟩
  case round =>
    obtain ⟨k, hk, hk30, rfl, hown, hb⟩ := hrel
    obtain ⟨A3, c3, rfl⟩ := hown.shape
    by_cases hlt : k < n ∧ k < 30
    · obtain ⟨hlt, hlt30⟩ := hlt
      have hki : (k : Int) < (n : Int) := by omega
      have hki30 : (k : Int) < 30 := by omega
      obtain ⟨a, o, rfl, ha, a0, a1, a2⟩ := HA.out k hlt
      have HMT := hid (cut_take (xs := xs) (k := k) (by rw [HN.out]; exact hlt))
      obtain ⟨⟨k1, n1, s1⟩, hx⟩ : ∃ x, xs.getD k sc0 = x := ⟨_, rfl⟩
      rw [hx] at a0 a1 a2 HMT
      have hlen : ((xs.take k).map cutS).length = k := by rw [List.length_map, List.length_take, HN.out]; omega
      obtain ⟨ts, hts⟩ : ∃ ts, (xs.take k).map cutS = ts := ⟨_, rfl⟩
      rw [hts] at hown HMT hlen ⊢
      have hlen' : ts.length ≤ 30 := by omega
      replace a0 := cell_below a0 hb
      replace a1 := cell_below a1 hb
      replace a2 := cell_below a2 hb
      have hC : ∀ wx, Calls Tryz.prog 12 #[.agg #[.int .i64 k1, .int .i64 n1, .string s1]] wx fun e w' => e = .returned (.agg #[.int .i64 k1, .int .i64 n1, .string (cut6 s1)]) ∧ Below wx.heap.size wx w' := fun wx => Cut_any ⟨k1, n1, s1⟩ wx
      have HC := hid hC
      have HO := hid (And.intro hown hb)
      clear hC hx hts hlen hown hb
      go_wp2_with fail
      refine (HC.out _).mono ?_
      rintro e wz ⟨rfl, hbz⟩
      have hb2 : Below w.heap.size w wz := HO.out.2.trans (hbz.mono HO.out.2.size)
      have hown2 := HO.out.1.below hbz
      have hs2 : w.heap.size ≤ wz.heap.size := hb2.size
      have HZ := hid (And.intro hown2 hb2)
      clear a0 a1 a2 hbz hb2 hown2
      go_wp2_with (at_builtin; go_must (refine wpList_append_sc rfl _ _ rfl w.heap.size (.slice A3 ts.length c3) ts ⟨k1, n1, cut6 s1⟩ wz (by rfl) (by rfl) HZ.out.1 (by omega) (by omega) ?_))
      rintro v5 w5 hown5 hb5 hlt5 ⟨A5, c5, rfl⟩
      have HF := hid (And.intro hown5 (HZ.out.2.trans hb5))
      clear hown5 hb5
      go_wp2
      go_roundw
      case rel => exact ⟨k + 1, by omega, by omega, by go_num, by rw [HMT.out]; exact HF.out.1, HF.out.2⟩
      case measure => simp [intOf]; omega
    · have HE := hid (show (xs.take k).map cutS = fewS xs by
        unfold fewS
        by_cases h : k < n
        · rw [show k = 30 by omega]
        · rw [List.take_of_length_le (by rw [HN.out]; omega), List.take_of_length_le (show xs.length ≤ 30 by rw [HN.out]; omega)])
      have HO := hid (And.intro hown hb)
      obtain ⟨m, hm⟩ : ∃ m, ((xs.take k).map cutS).length = m := ⟨_, rfl⟩
      rw [hm] at HO ⊢
      clear hown hb hm
      by_cases h : k < n
      · have hki : (k : Int) < (n : Int) := by omega
        have hki30 : ¬ (k : Int) < 30 := by omega
        clear hlt
        go_wp2
        refine bodyPost_ret (v := .slice A3 m c3) (by simp [results, Tryz.results20, go_sem]) rfl ?_
        exact ⟨_, rfl, by rw [← HE.out]; exact HO.out.1, HO.out.2⟩
      · have hki : ¬ (k : Int) < (n : Int) := by omega
        clear hlt
        go_wp2
        refine bodyPost_ret (v := .slice A3 m c3) (by simp [results, Tryz.results20, go_sem]) rfl ?_
        exact ⟨_, rfl, by rw [← HE.out]; exact HO.out.1, HO.out.2⟩
end Go.Proofs.YtkdhaipjfkalfaaGreatDoor
