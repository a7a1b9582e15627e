import Derived.Test.YtghelkkndkbejaaGreatDoorGi
import Derived.Test.YtghelkkndkbejaaGreatDoorHa
import Derived.Test.YtghelkkndkbejaaGreatDoorGx
import Derived.Deep.RegionHeldLaw
import Derived.Deep.AppendLies
import Derived.Deep.DrawnRows
/- What is proved: law 15's few: the first thirty pieces, their texts cut. -/
namespace Go.Proofs.YtghelkkndkbejaaGreatDoor
open Go Go.RowKit Go.Lib
set_option linter.unusedSimpArgs false
set_option linter.unusedVariables false
attribute [local go_sem ↓] Go.wp_at_zero Go.wp_at_succ

def cutI (t : TkI) : TkI := ⟨t.kind, t.str.take 200, t.at_⟩
def OwnI (w : World) (B : Nat) (v : Value) (ts : List TkI) : Prop := w.ownsRow B 33 3 v ts.length (ts.flatMap tkCellsI)
theorem OwnI.below {w w' : World} {B : Nat} {v : Value} {ts : List TkI} (h : OwnI w B v ts) (hb : Below w.heap.size w w') : OwnI w' B v ts := ownsRow_below h hb
theorem flat_atI : ∀ (ts : List TkI) (k : Nat), k < ts.length → (ts.flatMap tkCellsI)[k * 3]? = some (.int .i64 (ts.getD k ⟨0, [], 0⟩).kind) ∧ (ts.flatMap tkCellsI)[k * 3 + 1]? = some (.string ⟨(ts.getD k ⟨0, [], 0⟩).str.toArray⟩) ∧ (ts.flatMap tkCellsI)[k * 3 + 2]? = some (.int .i64 (ts.getD k ⟨0, [], 0⟩).at_)
  | [], k, h => by simp at h
  | t :: r, 0, h => ⟨rfl, rfl, rfl⟩
  | t :: r, k + 1, h => by
    have := flat_atI r k (by simpa using h)
    rw [List.flatMap_cons, show (k + 1) * 3 = 3 + k * 3 by omega]
    have e : ∀ j, (tkCellsI t ++ r.flatMap tkCellsI)[3 + j]? = (r.flatMap tkCellsI)[j]? := fun j => by
      rw [List.getElem?_append_right (by simp [tkCellsI])]; simp [tkCellsI]
    rw [show 3 + k * 3 + 1 = 3 + (k * 3 + 1) by omega, show 3 + k * 3 + 2 = 3 + (k * 3 + 2) by omega, e, e, e]
    exact this
theorem OwnI.sl {w : World} {B : Nat} {v : Value} {ts : List TkI} (h : OwnI w B v ts) : TokIn w v ts := by
  rcases h.2 with ⟨hv, h0⟩ | ⟨g, cap, cur, hv, _, hg, hnc, hcm, hsz, htake⟩
  · rw [hv]
    have : ts = [] := List.eq_nil_of_length_eq_zero h0
    subst this
    exact TokIn.nil w
  · refine ⟨some ⟨g, 0, none⟩, cap, hv, fun k hk => ⟨g, 0, rfl, (Array.getElem?_eq_some_iff.1 hg).1, ?_⟩⟩
    obtain ⟨f0, f1, f2⟩ := flat_atI ts k hk
    have hc : ∀ j u, (ts.flatMap tkCellsI)[j]? = some u → w.cell? ⟨g, 0 + j, none⟩ = some u := fun j u hu => by
      rw [Nat.zero_add, cell_of_row w g j cur 33 (0, 0) hg]
      rw [← htake, List.getElem?_take] at hu
      split at hu
      · rw [Array.getElem?_toList] at hu; exact hu
      · cases hu
    exact ⟨hc _ _ f0, hc _ _ f1, hc _ _ f2⟩
theorem cut2_list (l : List UInt8) : cut2 ⟨l.toArray⟩ = ⟨(l.take 200).toArray⟩ := by
  unfold cut2
  rw [Lib.extract_upto, toList_mk]
theorem map_take {xs : List TkI} {k : Nat} (h : k < xs.length) : (xs.take (k + 1)).map cutI = (xs.take k).map cutI ++ [cutI (xs.getD k ⟨0, [], 0⟩)] := by
  rw [List.take_succ_eq_append_getElem h, List.map_append]
  simp [List.getD, List.getElem?_eq_getElem h]

def FewPost (xs : List TkI) (w : World) (e : Ending) (w' : World) : Prop := ∃ u, e = .returned u ∧ TokIn w' u ((xs.take 30).map cutI) ∧ Below w.heap.size w w'

set_option maxRecDepth 100000 in
set_option maxHeartbeats 8000000 in
theorem few_any (v : Value) (xs : List TkI) (w : World) (hx : TokIn w v xs) :
    Calls Tryz.prog 12 #[v] w (FewPost xs w) := by
  obtain ⟨A, ca, rfl, hA⟩ := hx
  obtain ⟨i0, hi, hz0, hz1, hz2⟩ := info_parts info_tok
  have hu : Tryz.prog.underlying 22 = some (.slice 33) := by kernel_rfl
  have HU := hid hu
  have HA := hid hA
  obtain ⟨n, hn⟩ : ∃ n, xs.length = n := ⟨_, rfl⟩
  rw [hn] at HA ⊢
  have HN := hid hn
  clear hA hu hn
  go_enter Tryz.func12, Tryz.ntmps12
  go_wp2
  go_loopw [3, 4] (fun o i wr => ∃ k : Nat, k ≤ n ∧ k ≤ 30 ∧ i = .int .i64 k ∧ OwnI wr w.heap.size o ((xs.take k).map cutI) ∧ Below w.heap.size w wr) (fun _ i _ => 30 - (intOf i).toNat)
  case atStart => exact ⟨0, by omega, by omega, rfl, World.ownsRow_nil _ _ _ _, Below.refl _ _⟩
  case round =>
    obtain ⟨k, hk, hk30, rfl, hown, hb⟩ := hrel
    by_cases hlt : k < n ∧ k < 30
    · obtain ⟨hlt, hlt30⟩ := hlt
      have hki : (k : Int) < (n : Int) := by omega
      have hki30 : (k : Int) < 30 := by omega
      have hk0 : (0 : Int) ≤ (k : Int) := by omega
      obtain ⟨a, o, rfl, ha, a0, a1, a2⟩ := HA.out k hlt
      have hmt := map_take (xs := xs) (k := k) (by rw [HN.out]; exact hlt)
      have hlen : ((xs.take k).map cutI).length = k := by rw [List.length_map, List.length_take, HN.out]; omega
      obtain ⟨⟨k1, s1, p1⟩, hx⟩ : ∃ x, xs.getD k ⟨0, [], 0⟩ = x := ⟨_, rfl⟩
      rw [hx] at a0 a1 a2 hmt
      have HMT := hid hmt
      clear hx hmt
      obtain ⟨ts, hts⟩ : ∃ ts, (xs.take k).map cutI = ts := ⟨_, rfl⟩
      rw [hts] at hown hlen HMT
      have HL := hid hlen
      clear hts hlen
      replace a0 := cell_below a0 hb
      replace a1 := cell_below a1 hb
      replace a2 := cell_below a2 hb
      have haw : a < wr.heap.size := Nat.lt_of_lt_of_le ha hb.size
      have hcut : ∀ wx, Calls Tryz.prog 11 #[.string ⟨s1.toArray⟩] wx fun e w' => e = .returned (.string ⟨(s1.take 200).toArray⟩) ∧ w' = wx := fun wx => by
        have h := cut_same ⟨s1.toArray⟩ wx
        rwa [cut2_list] at h
      have HCUT := hid hcut
      have hne : some a ≠ u3.ownBlock := fun h => by
        have := (World.ownsRow.lt hown a h.symm).1
        omega
      have HNE := hid hne
      have HOWN := hid hown
      clear hcut hne hown
      have hownD : wr.drew.ownsRow w.heap.size 33 3 u3 ts.length (ts.flatMap tkCellsI) := HOWN.out
      have hb63 : ts.length + 1 ≤ maxLen := by rw [HL.out]; unfold maxLen; omega
      have hb32 : (ts.length + 1) * 32 ≤ 140737488355328 := by rw [HL.out]; omega
      have hbs : w.heap.size ≤ wr.heap.size := hb.size
      have HD := hid (And.intro hownD (And.intro hb63 hb32))
      clear hownD hb63 hb32
      go_wp2
      go_region_held_law (fun w' => w'.cell? ⟨a, o + k * 3, none⟩ = some (.int .i64 k1) ∧ w'.cell? ⟨a, o + k * 3 + 1, none⟩ = some (.string ⟨s1.toArray⟩) ∧ w'.cell? ⟨a, o + k * 3 + 2, none⟩ = some (.int .i64 p1))
        (first | go_keep | (refine ⟨?_, ?_, ?_⟩ <;> (rw [hgrow.cell_far _ (by simp; omega) HNE.out]; go_keep)))
        (first
          | (go_at_call 11; refine (HCUT.out _).mono ?_; rintro e w9 ⟨rfl, hw9⟩; subst w9)
          | (refine step_append_lies _ (by rfl) _ _ _ (by rfl) w.heap.size 33 i0 (.agg #[.int .i64 0, .string ⟨#[]⟩, .int .i64 0]) 3 32 HU.out hi hz0 hz1 hz2 (by rfl) (by decide) _ _ _ (by rfl) (World.ownsRow.alloc HD.out.1 _) ⟨wr.heap.size, 0, none⟩ 1 1 [.int .i64 k1, .string ⟨(s1.take 200).toArray⟩, .int .i64 p1] (by rfl) (by rfl) (World.news_of_block (heap_alloc_new wr.drew _)) (by intro u hu; simp at hu; rcases hu with rfl | rfl | rfl <;> rfl) (by decide) HD.out.2.1 HD.out.2.2 (by simp; omega) (wr.heap.size + 1) (by simp) ?_; intro g cap w9 hown9 hgrow hat hlt9))
      have hown3 : OwnI w9 w.heap.size (.slice (some ⟨g, 0, none⟩) (ts.length + 1) cap) ((xs.take (k + 1)).map cutI) := by
        rw [HMT.out]
        unfold OwnI
        rw [List.length_append, List.flatMap_append]
        simpa [tkCellsI, cutI] using hown9
      have hb6 : Below w.heap.size w w9 := (hb.drew.alloc hbs _).grown hgrow (by simp; omega) (fun j hj => by have := (World.ownsRow.lt HOWN.out j hj).1; exact this)
      have HF := hid (And.intro hown3 hb6)
      clear hown9 hgrow hat hlt9 hown3 hb6 HD HOWN HCUT HNE hb a0 a1 a2
      go_wp2
      go_roundw
      case rel => exact ⟨k + 1, by omega, by omega, by go_num, HF.out.1, HF.out.2⟩
      case measure => simp [intOf]; omega
    · have HE := hid (show (xs.take k).map cutI = (xs.take 30).map cutI by
        by_cases h : k < n
        · rw [show k = 30 by omega]
        · rw [List.take_of_length_le (by rw [HN.out]; omega), List.take_of_length_le (show xs.length ≤ 30 by rw [HN.out]; omega)])
      have HO := hid hown
      clear hown
      by_cases h : k < n
      · have hki : (k : Int) < (n : Int) := by omega
        have hki30 : ¬ (k : Int) < 30 := by omega
        clear hlt
        go_wp2
        refine bodyPost_ret (v := u3) (by simp [results, Tryz.results12, go_sem]) rfl ?_
        exact ⟨u3, rfl, by rw [← HE.out]; exact OwnI.sl HO.out, hb⟩
      · have hki : ¬ (k : Int) < (n : Int) := by omega
        clear hlt
        go_wp2
        refine bodyPost_ret (v := u3) (by simp [results, Tryz.results12, go_sem]) rfl ?_
        exact ⟨u3, rfl, by rw [← HE.out]; exact OwnI.sl HO.out, hb⟩
end Go.Proofs.YtghelkkndkbejaaGreatDoor
