import Derived.Test.YtiinnnbpbnojgaaGreatDoorMc
import Derived.Deep.DeepCutAuto
import Derived.Deep.CutRange
import Derived.Deep.LoopGhost
import Derived.Deep.QuietTactic
import Derived.BigQuiet
/- What is proved: the reference for layer 15: its small functions, at every text and place. -/
namespace Go.Proofs.YtiinnnbpbnojgaaGreatDoor
open Go Go.RowKit Go.Lib
set_option linter.unusedSimpArgs false
set_option linter.unusedVariables false

theorem among_one (c d : UInt8) : amongB [d] c = ((c.toNat : Int) == (d.toNat : Int)) := by
  rw [byte_eq]; unfold amongB; rw [Bool.eq_iff_iff]; simp
theorem isB_one {s : ByteArray} {i : Nat} (hlt : i < s.size) {c : UInt8} (hc : s[i]'hlt = c) (d : UInt8) : isB s.data.toList i [d] = ((c.toNat : Int) == (d.toNat : Int)) := by
  unfold isB
  rw [getD_byte s i hlt, ← Lib.size_eq, hc, among_one]
  simp [hlt]
theorem isB_at {s : ByteArray} {i : Nat} (hlt : i < s.size) {c : UInt8} (hc : s[i]'hlt = c) (bs : List UInt8) : isB s.data.toList i bs = amongB bs c := by
  unfold isB
  rw [getD_byte s i hlt, ← Lib.size_eq, hc]
  simp [hlt]
theorem isB_no {s : ByteArray} {i : Nat} (hlt : ¬ i < s.size) (bs : List UInt8) : isB s.data.toList i bs = false := by
  unfold isB
  rw [← Lib.size_eq]
  simp [hlt]

theorem refSign15_same (c : UInt8) (w : World) :
    Calls Tryz.prog 164 #[.int .u8 c.toNat] w fun e w' => e = .returned (.bool (signB c)) ∧ w' = w := by
  have hD := Digit_same c w
  obtain ⟨b, hb⟩ : ∃ b, isDigB c = b := ⟨_, rfl⟩
  rw [hb] at hD
  have HB := hid hb
  clear hb
  go_enter Tryz.func164, Tryz.ntmps164
  go_wp2_with (go_at_call 199; refine hD.mono ?_; rintro e w1 ⟨rfl, hw⟩; subst w1)
  all_goals (go_ret; refine ⟨?_, rfl⟩)
  all_goals (refine congrArg (fun b => Ending.returned (Value.bool b)) (?_ : _ = signB c); unfold signB; rw [HB.out, Bool.eq_iff_iff]; simp [*]; try omega)

theorem allG_take {p : UInt8 → Bool} {l : List UInt8} {k : Nat} (h : k < l.length) : (l.take (k + 1)).all p = ((l.take k).all p && p (l.getD k 0)) := by
  rw [List.take_succ_eq_append_getElem h, List.all_append]
  simp [List.getD, List.getElem?_eq_getElem h]
theorem allG_false {p : UInt8 → Bool} {l : List UInt8} {k : Nat} (h : k < l.length) (hz : p (l.getD k 0) = false) : l.all p = false := by
  rw [List.all_eq_false]
  refine ⟨l[k], List.getElem_mem h, ?_⟩
  simpa [List.getD, List.getElem?_eq_getElem h] using hz

set_option maxRecDepth 100000 in
theorem refIsName_same (s : ByteArray) (w : World) (hs : s.size ≤ 1000000) :
    Calls Tryz.prog 165 #[.string s] w fun e w' => e = .returned (.bool (nameB s.data.toList)) ∧ w' = w := by
  go_enter Tryz.func165, Tryz.ntmps165
  go_wp2
  go_loop [3] (fun i => ∃ k : Nat, k ≤ s.size ∧ i = .int .i64 k ∧ Hid ((s.data.toList.take k).all signB = true)) (fun i => s.size - (intOf i).toNat)
  case atStart => exact ⟨0, by omega, rfl, hid rfl⟩
  case round =>
    obtain ⟨k, hk, rfl, HI⟩ := hrel
    by_cases hlt : k < s.size
    · have hlti : (k : Int) < (s.size : Int) := by omega
      obtain ⟨d, hd⟩ : ∃ d, s[k]'hlt = d := ⟨_, rfl⟩
      have HD := hid ((getD_byte s k hlt).trans hd)
      have HS := hid (allG_take (p := signB) (l := s.data.toList) (k := k) (by rw [← Lib.size_eq]; exact hlt))
      have HX := hid (fun h => allG_false (p := signB) (l := s.data.toList) (k := k) (by rw [← Lib.size_eq]; exact hlt) h)
      have hDd := refSign15_same d w
      cases hdd : signB d with
      | true =>
        rw [hdd] at hDd
        have HI' := hid (show (s.data.toList.take (k + 1)).all signB = true by rw [HS.out, HI.out, HD.out, hdd]; rfl)
        clear hdd
        go_wp2_with fail
        refine hDd.mono ?_
        clear hDd
        rintro e w2 ⟨rfl, hw⟩
        subst w2
        go_wp2
        go_round
        case rel => exact ⟨k + 1, by omega, by go_num, HI'⟩
        case measure => simp [intOf]; omega
      | false =>
        rw [hdd] at hDd
        have HF := hid (show nameB s.data.toList = false by unfold nameB; rw [HX.out (by rw [HD.out, hdd])]; rfl)
        clear hdd
        go_wp2_with fail
        refine hDd.mono ?_
        clear hDd
        rintro e w2 ⟨rfl, hw⟩
        subst w2
        go_wp2
        go_ret
        exact ⟨by rw [HF.out]; rfl, rfl⟩
    · have hge : (s.size : Int) ≤ (k : Int) := by omega
      have hall := HI.out
      rw [List.take_of_length_le (by rw [← Lib.size_eq]; omega)] at hall
      have HF := hid (show nameB s.data.toList = (decide (1 ≤ (s.size : Int)) && decide ((s.size : Int) ≤ 20)) by
        unfold nameB
        rw [hall, ← Lib.size_eq, Bool.eq_iff_iff]
        have : s.data.toList.isEmpty = decide (s.size = 0) := by rw [Lib.size_eq]; cases s.data.toList <;> rfl
        rw [this]; by_cases h0 : s.size = 0 <;> simp [h0] <;> omega)
      clear hall HI
      go_wp2
      all_goals (go_ret; refine ⟨?_, rfl⟩; rw [HF.out]; simp [*]; try omega)

set_option maxRecDepth 100000 in
theorem refBlank_same (s : ByteArray) (i : Nat) (w : World) (hs : s.size ≤ 1000000) (hi : i ≤ 2000000) :
    Calls Tryz.prog 120 #[.string s, .int .i64 i] w fun e w' => e = .returned (.bool (blankB s.data.toList i)) ∧ w' = w := by
  by_cases hlt : i < s.size
  · obtain ⟨c, hc⟩ : ∃ c, s[i]'hlt = c := ⟨_, rfl⟩
    have HV := hid (show blankB s.data.toList i = ((c.toNat : Int) == 32) by unfold blankB; rw [isB_one hlt hc, ← Lib.size_eq, decide_eq_false (by omega)]; rfl)
    have hlti : (i : Int) < (s.size : Int) := by omega
    go_enter Tryz.func120, Tryz.ntmps120
    go_wp2
    go_ret
    exact ⟨by rw [HV.out]; first | rfl | (simp; omega), rfl⟩
  · have HV := hid (show blankB s.data.toList i = true by unfold blankB; rw [← Lib.size_eq]; simp; left; omega)
    have hge : (s.size : Int) ≤ (i : Int) := by omega
    go_enter Tryz.func120, Tryz.ntmps120
    go_wp2
    go_ret
    exact ⟨by rw [HV.out]; first | rfl | (simp; omega), rfl⟩

theorem blank_lt {s : ByteArray} {i : Nat} (h : blankB s.data.toList i = false) : i < s.size := by
  unfold blankB at h
  rw [← Lib.size_eq] at h
  simp at h
  omega

set_option maxRecDepth 100000 in
theorem refClosed_same (s : ByteArray) (i d : Nat) (w : World) (hs : s.size ≤ 1000000) (hi : i ≤ 2000000) :
    Calls Tryz.prog 118 #[.string s, .int .i64 i, .int .i64 d] w fun e w' => e = .returned (.bool (closedB s.data.toList i d)) ∧ w' = w := by
  have hB := fun wx => refBlank_same s i wx hs hi
  cases hb : blankB s.data.toList i with
  | true =>
    rw [hb] at hB
    have HV := hid (show closedB s.data.toList i d = true by unfold closedB; rw [hb]; rfl)
    clear hb
    go_enter Tryz.func118, Tryz.ntmps118
    go_wp2_with fail
    refine (hB _).mono ?_
    rintro e w1 ⟨rfl, hw⟩
    subst w1
    clear hB
    go_wp2
    go_ret
    exact ⟨by rw [HV.out]; first | rfl | (simp; omega), rfl⟩
  | false =>
    rw [hb] at hB
    have hlt := blank_lt hb
    obtain ⟨c, hc⟩ : ∃ c, s[i]'hlt = c := ⟨_, rfl⟩
    have HV := hid (show closedB s.data.toList i d = (decide (0 < d) && amongB flowL c) by unfold closedB; rw [hb, isB_at hlt hc]; rfl)
    have hlti : (i : Int) < (s.size : Int) := by omega
    have hA := fun wx => Among_same c flowB wx (by decide)
    rw [show flowB.data.toList = flowL from rfl] at hA
    clear hb
    by_cases hd : 0 < d
    · have hdi : (0 : Int) < (d : Int) := by omega
      rw [show decide (0 < d) = true by simpa using hd] at HV
      go_enter Tryz.func118, Tryz.ntmps118
      go_wp2_with fail
      refine (hB _).mono ?_
      rintro e w1 ⟨rfl, hw⟩
      subst w1
      clear hB
      go_wp2_with fail
      refine (hA _).mono ?_
      rintro e w1 ⟨rfl, hw⟩
      subst w1
      clear hA
      go_wp2
      go_ret
      exact ⟨by rw [HV.out]; rfl, rfl⟩
    · have hdi : ¬ (0 : Int) < (d : Int) := by omega
      rw [show decide (0 < d) = false by simpa using hd] at HV
      go_enter Tryz.func118, Tryz.ntmps118
      go_wp2_with fail
      refine (hB _).mono ?_
      rintro e w1 ⟨rfl, hw⟩
      subst w1
      clear hB hA
      go_wp2
      go_ret
      exact ⟨by rw [HV.out]; rfl, rfl⟩

set_option maxRecDepth 100000 in
theorem refNote_same (s : ByteArray) (i : Nat) (w : World) (hs : s.size ≤ 1000000) (hlt : i < s.size) :
    Calls Tryz.prog 72 #[.string s, .int .i64 i] w fun e w' => e = .returned (.bool (noteB s.data.toList i)) ∧ w' = w := by
  obtain ⟨c, hc⟩ : ∃ c, s[i]'hlt = c := ⟨_, rfl⟩
  have hlti : (i : Int) < (s.size : Int) := by omega
  by_cases h0 : i = 0
  · subst h0
    have HV := hid (show noteB s.data.toList 0 = ((c.toNat : Int) == 35) by unfold noteB; rw [isB_one hlt hc]; simp)
    go_enter Tryz.func72, Tryz.ntmps72
    go_wp2
    all_goals (go_ret; exact ⟨by rw [HV.out]; simp [*], rfl⟩)
  · obtain ⟨k, rfl⟩ : ∃ k, i = k + 1 := ⟨i - 1, by omega⟩
    have hltk : k < s.size := by omega
    obtain ⟨b, hb⟩ : ∃ b, s[k]'hltk = b := ⟨_, rfl⟩
    have HV := hid (show noteB s.data.toList (k + 1) = (((c.toNat : Int) == 35) && ((b.toNat : Int) == 32)) by unfold noteB; rw [isB_one hlt hc, show k + 1 - 1 = k from rfl, isB_one hltk hb]; simp)
    have hk1 : ((k + 1 : Nat) : Int) - 1 = (k : Int) := by omega
    have hltki : (k : Int) < (s.size : Int) := by omega
    have hne : ¬ ((k + 1 : Nat) : Int) = 0 := by omega
    clear h0
    go_enter Tryz.func72, Tryz.ntmps72
    go_wp2
    all_goals (go_ret; exact ⟨by rw [HV.out]; simp [*], rfl⟩)
end Go.Proofs.YtiinnnbpbnojgaaGreatDoor

/- What is proved: slices of pieces, as lists; the reference's Same, and package tok's Same. -/
namespace Go.Proofs.YtiinnnbpbnojgaaGreatDoor
open Go Go.RowKit Go.Lib
set_option linter.unusedSimpArgs false
set_option linter.unusedVariables false

def tkCells (t : Tk) : List Value := [.int .i64 t.kind, .string ⟨t.str.toArray⟩, .int .i64 t.at_]
def tkV (t : Tk) : Value := .agg #[.int .i64 t.kind, .string ⟨t.str.toArray⟩, .int .i64 t.at_]
/-- A slice of pieces that reads as a list. -/
def TokSl (w : World) (v : Value) (ts : List Tk) : Prop :=
  ∃ (A : Option Addr) (cap : Nat), v = .slice A ts.length cap ∧ ∀ k, k < ts.length → ∃ (b o : Nat), A = some ⟨b, o, none⟩ ∧ b < w.heap.size ∧
    w.cell? ⟨b, o + k * 3, none⟩ = some (.int .i64 (ts.getD k ⟨0, [], 0⟩).kind) ∧ w.cell? ⟨b, o + k * 3 + 1, none⟩ = some (.string ⟨(ts.getD k ⟨0, [], 0⟩).str.toArray⟩) ∧ w.cell? ⟨b, o + k * 3 + 2, none⟩ = some (.int .i64 (ts.getD k ⟨0, [], 0⟩).at_)
theorem TokSl.nil (w : World) : TokSl w (.slice none 0 0) [] := ⟨none, 0, rfl, fun k h => by simp at h⟩
theorem TokSl.below {w w' : World} {v : Value} {ts : List Tk} (h : TokSl w v ts) (hb : Below w.heap.size w w') : TokSl w' v ts := by
  obtain ⟨A, cap, hv, hc⟩ := h
  refine ⟨A, cap, hv, fun k hk => ?_⟩
  obtain ⟨b, o, ha, hlt, h0, h1, h2⟩ := hc k hk
  exact ⟨b, o, ha, Nat.lt_of_lt_of_le hlt hb.size, (hb.cell (p := ⟨b, o + k * 3, none⟩) hlt).trans h0, (hb.cell (p := ⟨b, o + k * 3 + 1, none⟩) hlt).trans h1, (hb.cell (p := ⟨b, o + k * 3 + 2, none⟩) hlt).trans h2⟩

theorem eq_tok (k1 p1 k2 p2 : Int) (s1 s2 : ByteArray) (w : World) :
    (binOp .eql 39 (.agg #[.int .i64 k1, .string s1, .int .i64 p1]) (.agg #[.int .i64 k2, .string s2, .int .i64 p2])).run Tryz.prog w = .ok (.bool (k1 == k2 && (s1.toList == s2.toList && p1 == p2))) w := by
  rw [run_eql_struct]
  cases h1 : (k1 == k2) <;> cases h2 : (s1.toList == s2.toList) <;> cases h3 : (p1 == p2) <;> go_simp
theorem neq_tok (k1 p1 k2 p2 : Int) (s1 s2 : ByteArray) (w : World) :
    (binOp .neq 39 (.agg #[.int .i64 k1, .string s1, .int .i64 p1]) (.agg #[.int .i64 k2, .string s2, .int .i64 p2])).run Tryz.prog w = .ok (.bool (!(k1 == k2 && (s1.toList == s2.toList && p1 == p2)))) w := by
  rw [run_neq_struct]
  cases h1 : (k1 == k2) <;> cases h2 : (s1.toList == s2.toList) <;> cases h3 : (p1 == p2) <;> go_simp
theorem tok_eq (x y : Tk) : ((x.kind : Int) == (y.kind : Int) && ((⟨x.str.toArray⟩ : ByteArray).toList == (⟨y.str.toArray⟩ : ByteArray).toList && ((x.at_ : Nat) : Int) == (y.at_ : Int))) = decide (x = y) := by
  rw [Lib.toList_data, Lib.toList_data, Bool.eq_iff_iff]
  obtain ⟨k1, s1, p1⟩ := x
  obtain ⟨k2, s2, p2⟩ := y
  simp only [Bool.and_eq_true, beq_iff_eq, decide_eq_true_eq, Tk.mk.injEq, toList_mk]
  constructor
  · rintro ⟨h1, h2, h3⟩; exact ⟨by omega, h2, by omega⟩
  · rintro ⟨h1, h2, h3⟩; exact ⟨by omega, h2, by omega⟩

theorem take_eq {xs ys : List Tk} {k : Nat} (hx : k < xs.length) (hy : k < ys.length) (h : xs.take k = ys.take k) :
    (xs.getD k ⟨0, [], 0⟩ = ys.getD k ⟨0, [], 0⟩ → xs.take (k + 1) = ys.take (k + 1)) ∧ (¬ xs.getD k ⟨0, [], 0⟩ = ys.getD k ⟨0, [], 0⟩ → ¬ xs = ys) := by
  refine ⟨fun e => ?_, fun e e2 => e (by rw [e2])⟩
  rw [List.take_succ_eq_append_getElem hx, List.take_succ_eq_append_getElem hy, h]
  simp only [List.getD, List.getElem?_eq_getElem hx, List.getElem?_eq_getElem hy, Option.getD_some] at e
  rw [e]

end Go.Proofs.YtiinnnbpbnojgaaGreatDoor
