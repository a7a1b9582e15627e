import Derived.Test.YtccjfoldjbmnfaaDoorWc
namespace Go.Proofs.YtccjfoldjbmnfaaDoor
open Go Go.RowKit Go.Lib
attribute [local go_sem] Oper.semAt_some

theorem isOne_any (r : Int) (zs : List Int) (b n cap : Nat) (w : World) (hn : zs.length = n) (hs : n ≤ 1000) (hc : ∀ i, i < n → w.cell? ⟨b, i, none⟩ = some (.int .i32 (zs[i]?.getD 0))) :
    Calls Tryd.prog 36 #[.int .i32 r, .slice (some ⟨b, 0, none⟩) n cap] w fun e w' => e = .returned (.bool (memB zs r)) ∧ w = w' := by
  subst hn
  go_enter Tryd.func36, Tryd.ntmps36
  go_wp2
  go_loop [9] (fun i => ∃ k : Nat, k ≤ zs.length ∧ i = .int .i64 k ∧ Hid (memB (zs.take k) r = false)) (fun i => zs.length - (intOf i).toNat)
  case atStart => exact ⟨0, by omega, rfl, hid rfl⟩
  case round =>
    obtain ⟨k, hk, rfl, HN⟩ := hrel
    by_cases hlt : k < zs.length
    · have hck := hc k hlt
      clear hc
      go_wp2
      · have hx : (r == zs[k]) = true := by assumption
        go_ret
        exact ⟨by rw [memB_hit hlt hx]; rfl, rfl⟩
      · have hx : (r == zs[k]) = false := by assumption
        go_round
        case rel => exact ⟨k + 1, by omega, by go_num, hid (by rw [memB_succ hlt, HN.out, hx]; rfl)⟩
        case measure => simp [intOf]; omega
    · go_wp2
      go_ret
      have h := HN.out
      rw [List.take_of_length_le (by omega)] at h
      exact ⟨by rw [h]; rfl, rfl⟩

/-- .. over a slice that has just been laid. -/
theorem isOne_new (r : Int) (zs : List Int) (n cap : Nat) (w : World) (hn : zs.length = n) (hs : n ≤ 1000) :
    Calls Tryd.prog 36 #[.int .i32 r, .slice (some ⟨w.heap.size, 0, none⟩) n cap] (w.alloc (.cells (zs.map (Value.int .i32)).toArray 21)) fun e w' => e = .returned (.bool (memB zs r)) ∧ Below w.heap.size w w' := by
  refine (isOne_any r zs w.heap.size n cap _ hn hs (fun i hi => ?_)).mono ?_
  · have h := World.alloc_heap_new w (.cells (zs.map (Value.int .i32)).toArray 21)
    unfold World.cell?
    rw [h]
    simp [show i < zs.length by omega]
  · rintro e w' ⟨rfl, rfl⟩
    exact ⟨rfl, (Below.refl _ w).alloc (Nat.le_refl _) _⟩

set_option maxHeartbeats 400000 in
theorem isBarred_any (r : Nat) (flow : Bool) (B : Nat) (w : World) (h1 : r ≤ 1114111) (hc : w.cell? ⟨B, 0, none⟩ = some (.bool flow)) :
    Calls Tryd.prog 37 #[.int .i32 r, .pointer (some ⟨B, 0, none⟩)] w fun e w' => e = .returned (.bool (flow && isFlow r)) ∧ Below w.heap.size w w' := by
  cases flow with
  | false =>
    go_enter Tryd.func37, Tryd.ntmps37
    go_wp2
    go_ret
    exact ⟨rfl, Below.refl _ _⟩
  | true =>
    go_enter Tryd.func37, Tryd.ntmps37
    go_wp2_with fail
    refine (ContainsRune_any r w h1).mono ?_
    rintro e w' ⟨rfl, hb⟩
    go_wp2
    go_ret
    exact ⟨rfl, hb⟩
end Go.Proofs.YtccjfoldjbmnfaaDoor
