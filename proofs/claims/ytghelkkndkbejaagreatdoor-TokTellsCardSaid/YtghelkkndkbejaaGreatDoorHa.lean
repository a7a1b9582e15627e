/- What is proved: law 15's shown and cut: some lines' pieces. -/
import Derived.Test.YtghelkkndkbejaaGreatDoorKp
import Derived.Test.YtghelkkndkbejaaGreatDoorGt
import Derived.Test.YtghelkkndkbejaaGreatDoorKj
import Derived.Test.YtghelkkndkbejaaGreatDoorMf
namespace Go.Proofs.YtghelkkndkbejaaGreatDoor
open Go Go.RowKit Go.Lib
set_option linter.unusedSimpArgs false
set_option linter.unusedVariables false

def ln1 : ByteArray := ⟨#[45, 32, 97, 32, 98, 58, 32, 91, 99, 44, 32, 38, 100, 32, 34, 101, 34, 93, 32, 35, 32, 102]⟩
def tk1 : List Tk := [⟨5, [], 0⟩, ⟨1, [97, 32, 98], 2⟩, ⟨6, [], 5⟩, ⟨8, [], 7⟩, ⟨1, [99], 8⟩, ⟨7, [], 9⟩, ⟨3, [100], 11⟩, ⟨2, [101], 14⟩, ⟨9, [], 17⟩]
theorem rd1 : readT ln1.data.toList = (tk1, 0, 0) := by kernel_rfl
theorem rd2 : readT [97, 32, 125] = ([⟨1, [97, 32, 125], 0⟩], 0, 0) := by kernel_rfl
theorem rd3 : readT [120, 58, 32, 34, 121, 34, 122] = ([], 3, 90) := by kernel_rfl
theorem rd4 : readT [91, 45, 32, 97, 93] = ([], 1, 90) := by kernel_rfl

/-- A row of pieces that was laid, and what came behind. -/
theorem row_tok {w : World} {g : Nat} {cur : Array Value} {ts : List Tk} (hg : w.heap[g]? = some (.cells cur 33 (0, 0))) (hc : cur.toList = ts.flatMap tkCells) (cap : Nat) : TokSl w (.slice (some ⟨g, 0, none⟩) ts.length cap) ts := by
  refine ⟨some ⟨g, 0, none⟩, cap, rfl, fun k hk => ⟨g, 0, rfl, (Array.getElem?_eq_some_iff.1 hg).1, ?_⟩⟩
  obtain ⟨f0, f1, f2⟩ := flat_at ts k hk
  have hd : ∀ j u, (ts.flatMap tkCells)[j]? = some u → w.cell? ⟨g, 0 + j, none⟩ = some u := fun j u hu => by
    rw [Nat.zero_add, cell_of_row w g j cur 33 (0, 0) hg]
    rw [← hc, Array.getElem?_toList] at hu
    exact hu
  exact ⟨hd _ _ f0, hd _ _ f1, hd _ _ f2⟩

theorem below_step {w0 w w' : World} (h : Below w0.heap.size w0 w) (hb : Below w.heap.size w w') : Below w0.heap.size w0 w' := h.trans (hb.mono h.size)

set_option maxRecDepth 100000 in
set_option maxHeartbeats 2000000 in
theorem shown_any (w : World) (hT : Tabs w) (hE : ErrTy w) :
    Calls Tryz.prog 10 #[] w fun e w' => e = .returned (.bool true) ∧ Below w.heap.size w w' := by
  have hR := fun s wx (hb : Below w.heap.size w wx) (hs : s.size ≤ 100000) => tRead_any s wx hs (hT.below hb) (hE.below hb)
  go_enter Tryz.func10, Tryz.ntmps10
  go_wp2_with fail
  refine (hR ⟨#[45, 32, 97, 32, 98, 58, 32, 91, 99, 44, 32, 38, 100, 32, 34, 101, 34, 93, 32, 35, 32, 102]⟩ _ (Below.refl _ _) (by decide)).mono ?_
  rw [show readT (⟨#[45, 32, 97, 32, 98, 58, 32, 91, 99, 44, 32, 38, 100, 32, 34, 101, 34, 93, 32, 35, 32, 102]⟩ : ByteArray).data.toList = (tk1, 0, 0) from rd1]
  rintro e w1 ⟨l, rfl, hl, hb1⟩
  obtain ⟨r, hr⟩ : ∃ r, w1.heap.size = r := ⟨_, rfl⟩
  have hw : ∀ (cur : Array Value), cur.toList = tk1.flatMap tkCells → TokSl (w1.alloc (.cells cur 33)) (.slice (some ⟨r, 0, none⟩) 9 9) tk1 ∧ TokSl (w1.alloc (.cells cur 33)) l tk1 ∧ Below w.heap.size w (w1.alloc (.cells cur 33)) := fun cur hc =>
    have h0 := (Below.refl w1.heap.size w1).alloc (Nat.le_refl _) (.cells cur 33)
    ⟨row_tok (by rw [← hr]; exact World.alloc_heap_new _ _) hc 9, hl.below h0, below_step hb1 h0⟩
  obtain ⟨hw1, hl1, hb2⟩ := hw #[.int .i64 5, .string ⟨#[]⟩, .int .i64 0, .int .i64 1, .string ⟨#[97, 32, 98]⟩, .int .i64 2, .int .i64 6, .string ⟨#[]⟩, .int .i64 5, .int .i64 8, .string ⟨#[]⟩, .int .i64 7, .int .i64 1, .string ⟨#[99]⟩, .int .i64 8, .int .i64 7, .string ⟨#[]⟩, .int .i64 9, .int .i64 3, .string ⟨#[100]⟩, .int .i64 11, .int .i64 2, .string ⟨#[101]⟩, .int .i64 14, .int .i64 9, .string ⟨#[]⟩, .int .i64 17] rfl
  clear hw hl hb1
  go_wp2_with fail
  refine (hR ⟨#[97, 32, 125]⟩ _ hb2 (by decide)).mono ?_
  rw [show readT (⟨#[97, 32, 125]⟩ : ByteArray).data.toList = _ from rd2]
  rintro e w2 ⟨v2, rfl, -, hb3⟩
  replace hb2 := below_step hb2 hb3
  replace hw1 := hw1.below hb3
  replace hl1 := hl1.below hb3
  clear hb3
  go_wp2_with fail
  refine (hR ⟨#[120, 58, 32, 34, 121, 34, 122]⟩ _ hb2 (by decide)).mono ?_
  rw [show readT (⟨#[120, 58, 32, 34, 121, 34, 122]⟩ : ByteArray).data.toList = _ from rd3]
  rintro e w3 ⟨v3, rfl, -, hb3⟩
  replace hb2 := below_step hb2 hb3
  replace hw1 := hw1.below hb3
  replace hl1 := hl1.below hb3
  clear hb3
  go_wp2_with fail
  refine (hR ⟨#[91, 45, 32, 97, 93]⟩ _ hb2 (by decide)).mono ?_
  rw [show readT (⟨#[91, 45, 32, 97, 93]⟩ : ByteArray).data.toList = _ from rd4]
  rintro e w4 ⟨v4, rfl, -, hb3⟩
  replace hb2 := below_step hb2 hb3
  replace hw1 := hw1.below hb3
  replace hl1 := hl1.below hb3
  clear hb3 hR
  go_wp2_with fail
  refine (refSame15_any _ _ tk1 tk1 w4 hl1 hw1 (by decide) (by decide)).mono ?_
  rw [show decide (tk1 = tk1) = true from decide_eq_true rfl]
  rintro e w5 ⟨rfl, hb3⟩
  replace hb2 := below_step hb2 hb3
  replace hw1 := hw1.below hb3
  replace hl1 := hl1.below hb3
  clear hb3
  go_wp2_with fail
  refine (tSame_any _ _ tk1 tk1 w5 hl1 hw1 (by decide) (by decide)).mono ?_
  rw [show decide (tk1 = tk1) = true from decide_eq_true rfl]
  rintro e w6 ⟨rfl, hb3⟩
  replace hb2 := below_step hb2 hb3
  replace hl1 := hl1.below hb3
  clear hb3 hw1
  go_wp2_with fail
  refine (tSame_any _ _ tk1 [] w6 hl1 (TokSl.nil w6) (by decide) (by decide)).mono ?_
  rw [show decide (tk1 = []) = false from rfl]
  rintro e w7 ⟨rfl, hb3⟩
  replace hb2 := below_step hb2 hb3
  clear hb3 hl1
  go_wp2_with fail
  refine (isName_any ⟨#[97, 45, 49]⟩ w7 (by decide)).mono ?_
  rw [show nameB (⟨#[97, 45, 49]⟩ : ByteArray).data.toList = true from by kernel_rfl]
  rintro e w8 ⟨rfl, hb3⟩
  replace hb2 := below_step hb2 hb3
  clear hb3
  go_wp2_with fail
  refine (isName_any ⟨#[]⟩ w8 (by decide)).mono ?_
  rw [show nameB (⟨#[]⟩ : ByteArray).data.toList = false from by kernel_rfl]
  rintro e w9 ⟨rfl, hb3⟩
  replace hb2 := below_step hb2 hb3
  clear hb3
  go_wp2
  go_ret
  exact ⟨rfl, hb2⟩

/-- The first two hundred bytes. -/
def cut2 (s : ByteArray) : ByteArray := s.extract 0 200
theorem cut2_size (s : ByteArray) : (cut2 s).size ≤ 200 := by unfold cut2; rw [ByteArray.size_extract]; omega
theorem cut_same (s : ByteArray) (w : World) :
    Calls Tryz.prog 11 #[.string s] w fun e w' => e = .returned (.string (cut2 s)) ∧ w' = w := by
  have hmin : (min (s.size : Int) 200) = ((min s.size 200 : Nat) : Int) := by omega
  have hle : ((min s.size 200 : Nat) : Int) ≤ (s.size : Int) := by omega
  have hC := hid (show cut2 s = s.extract 0 (min s.size 200) by
    unfold cut2
    rw [Lib.extract_upto, Lib.extract_upto]
    congr 2
    by_cases h : s.size ≤ 200
    · rw [Nat.min_eq_left h, List.take_of_length_le (by rw [← Lib.size_eq]; omega), List.take_of_length_le (by rw [← Lib.size_eq]; omega)]
    · rw [Nat.min_eq_right (by omega)])
  obtain ⟨m, hm⟩ : ∃ m, min s.size 200 = m := ⟨_, rfl⟩
  go_enter Tryz.func11, Tryz.ntmps11
  go_wp2
  go_ret
  exact ⟨by rw [hC.out, hm]; rfl, rfl⟩

theorem rises_len {n : Nat} : ∀ (ts : List Tk) (la : Int) (d : Nat), -1 ≤ la → la < n → Rises n la d ts → (ts.length : Int) + la + 1 ≤ n
  | [], la, d, h1, h2, h => by simp; omega
  | t :: r, la, d, h1, h2, h => by
    obtain ⟨a, b, _, _, _, d', _, _, _, h'⟩ := h
    have := rises_len r t.at_ d' (by omega) (by omega) h'
    simp only [List.length_cons]; omega
theorem drop_getD : ∀ (ts : List Tk) (k : Nat), k < ts.length → ts.drop k = ts.getD k ⟨0, [], 0⟩ :: ts.drop (k + 1)
  | [], k, h => by simp at h
  | t :: r, 0, _ => rfl
  | t :: r, k + 1, h => by have := drop_getD r k (by simpa using h); simpa using this
end Go.Proofs.YtghelkkndkbejaaGreatDoor
