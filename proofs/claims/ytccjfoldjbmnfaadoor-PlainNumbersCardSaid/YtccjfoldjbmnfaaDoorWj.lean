import Derived.Test.YtccjfoldjbmnfaaDoorWi
import Derived.Lib.QuietBelow
namespace Go.Proofs.YtccjfoldjbmnfaaDoor
open Go Go.RowKit Go.Lib

theorem below_growN (w : World) (k : Nat) (os : Array Obj) : Below w.heap.size w (Go.Sort.grow (w.drewN k) os) :=
  ⟨rfl, rfl, rfl, by show w.heap.size ≤ (w.heap ++ os).size; simp, fun i hi => by show (w.heap ++ os)[i]? = _; rw [Array.getElem?_append_left hi]⟩

theorem Itoa_any (n : Int) (w : World) (h0 : -9223372036854775808 ≤ n) (h1 : n ≤ 9223372036854775807) (hT : Tabs w) :
    Calls Tryd.prog 31 #[.int .i64 n] w fun e w' => e = .returned (.string ⟨(Lib.itoa n).toArray⟩) ∧ Below w.heap.size w w' := by
  refine (Tryd.strconv_Itoa n h0 h1 w hT.pow).mono ?_
  rintro e w' ⟨rfl, k, os, rfl⟩
  exact ⟨rfl, below_growN w k os⟩

theorem Atoi_ok (s : ByteArray) (v : Int) (w : World) (hs : s.size ≤ 1000000) (h : Lib.atoiAll s.data.toList = .ok v) :
    Calls Tryd.prog 30 #[.string s] w fun e w' => e = .returned (.tuple #[.int .i64 v, .nilIface]) ∧ Below w.heap.size w w' := by
  refine (Tryd.strconv_Atoi_ok s (by omega) v h w).mono ?_
  rintro e w' ⟨rfl, rfl | ⟨t, rfl⟩⟩
  · exact ⟨rfl, Below.refl _ _⟩
  · exact ⟨rfl, Lib.bytesWorld_below _ _ _⟩
theorem Atoi_bad (s : ByteArray) (w : World) (hs : s.size ≤ 1000000) (hT : Tabs w) (h : ∀ v, Lib.atoiAll s.data.toList ≠ .ok v) :
    Calls Tryd.prog 30 #[.string s] w fun e w' => (∃ v N, e = .returned (.tuple #[.int .i64 v, .iface 85 (.pointer (some ⟨N, 0, none⟩))])) ∧ Below w.heap.size w w' := by
  cases ha : Lib.atoiAll s.data.toList with
  | ok v => exact absurd ha (h v)
  | range =>
    obtain ⟨te, pe, hc⟩ := hT.rng
    refine (Tryd.strconv_Atoi_range s (by omega) ha _ w hc (.inr ⟨te, pe, rfl⟩)).mono ?_
    rintro e w' ⟨N, rfl, _, _, hb⟩
    exact ⟨⟨_, _, rfl⟩, hb⟩
  | _ =>
    obtain ⟨te, pe, hc⟩ := hT.syn
    refine (Tryd.strconv_Atoi_syntax s (by omega) h (fun h2 => by rw [ha] at h2; cases h2) _ w hc (.inr ⟨te, pe, rfl⟩)).mono ?_
    rintro e w' ⟨N, rfl, _, _, hb⟩
    exact ⟨⟨_, _, rfl⟩, hb⟩

/-- A text's value, as the program has it. -/
def numV (l : List UInt8) : Value := match Lib.atoiAll l with
  | .ok n => if Lib.itoa n = l ∧ -999999999999999 ≤ n ∧ n ≤ 999999999999999 then .iface 3 (.int .i64 n) else halfV
  | _ => halfV
def valueV (s : ByteArray) : Value := match assoc s wordsL with
  | some v => v
  | none => if numP s.data.toList then numV s.data.toList else .iface 9 (.string s)

theorem look_words (s : ByteArray) (w : World) (b : Nat) (hb : w.heap[b]? = some (wordsObj 9)) :
    (Instr.lookup 43 (.map (some b)) (.string s) true).run Tryd.prog w = .ok (.tuple #[(assoc s wordsL).getD .nilIface, .bool (assoc s wordsL).isSome]) w :=
  run_lookup_list (P := Tryd.prog) (enc := Value.string) sameS isKeyS (k := 9) (e := 20) (l := wordsL) (z := .nilIface) Tryd.underlying43 Tryd.underlying9 (by kernel_rfl) hb s true

set_option maxRecDepth 100000 in
set_option maxHeartbeats 400000 in
theorem value_any (s : ByteArray) (w : World) (hs : s.size ≤ 1000000) (hT : Tabs w) :
    Calls Tryd.prog 20 #[.string s] w fun e w' => e = .returned (valueV s) ∧ Below w.heap.size w w' := by
  go_enter Tryd.func20, Tryd.ntmps20
  go_wp2_with fail
  refine (words_any _).mono ?_
  rintro e w1 ⟨rfl, hw1⟩
  have hb1 : Below w.heap.size w w1 := by rw [hw1]; exact (Below.refl _ _).alloc (Nat.le_refl _) _
  have hlk := look_words s w1 w.heap.size (by rw [hw1]; exact World.alloc_heap_new _ _)
  have hT1 := hT.below hb1
  clear hw1
  cases ha : assoc s wordsL with
  | some v =>
    rw [ha] at hlk
    have HA := hid ha; clear ha
    simp only [Option.getD_some, Option.isSome_some] at hlk
    go_wp2
    go_ret
    exact ⟨by rw [show valueV s = v from (by unfold valueV; rw [HA.out])]; rfl, hb1⟩
  | none =>
    rw [ha] at hlk
    have HA := hid ha; clear ha
    simp only [Option.getD_none, Option.isSome_none] at hlk
    go_wp2_with fail
    refine (isNumber_any s _).mono ?_
    rintro e w2 ⟨rfl, hb2⟩
    have hb02 : Below w.heap.size w w2 := hb1.trans (hb2.mono hb1.size)
    have hT2 := hT1.below hb2
    cases hn : numP s.data.toList with
    | false =>
      have HN := hid hn; clear hn
      go_wp2
      go_ret
      exact ⟨by rw [show valueV s = .iface 9 (.string s) from (by unfold valueV; rw [HA.out, HN.out]; rfl)]; rfl, hb02⟩
    | true =>
      have HN := hid hn; clear hn
      have hval : valueV s = numV s.data.toList := by unfold valueV; rw [HA.out, HN.out]; rfl
      have HV := hid hval; clear hval
      go_wp2_with fail
      cases hat : Lib.atoiAll s.data.toList with
      | ok n =>
        have hb := atoiAll_bd hat
        have HT := hid hat
        refine (Atoi_ok s n _ hs hat).mono ?_
        clear hat
        rintro e w3 ⟨rfl, hb3⟩
        have hb03 : Below w.heap.size w w3 := hb02.trans (hb3.mono hb02.size)
        have hT3 := hT2.below hb3
        go_wp2_with fail
        refine (Itoa_any n _ hb.1 hb.2 hT3).mono ?_
        rintro e w4 ⟨rfl, hb4⟩
        have hb04 : Below w.heap.size w w4 := hb03.trans (hb4.mono hb03.size)
        by_cases hi : Lib.itoa n = s.data.toList
        · have hii : (!Lib.itoa n == s.toList) = false := by rw [Lib.toList_data, hi]; simp
          have HI := hid hi; clear hi
          by_cases hlo : n < -999999999999999
          · have hfin : numV s.data.toList = halfV := by unfold numV; rw [HT.out]; simp only []; rw [if_neg (by omega)]
            have HF := hid hfin; clear hfin
            go_wp2
            go_ret
            exact ⟨by rw [HV.out, HF.out]; rfl, hb04⟩
          · by_cases hhi : 999999999999999 < n
            · have hfin : numV s.data.toList = halfV := by unfold numV; rw [HT.out]; simp only []; rw [if_neg (by omega)]
              have HF := hid hfin; clear hfin
              go_wp2
              go_ret
              exact ⟨by rw [HV.out, HF.out]; rfl, hb04⟩
            · have hfin : numV s.data.toList = .iface 3 (.int .i64 n) := by unfold numV; rw [HT.out]; simp only []; rw [if_pos ⟨HI.out, by omega, by omega⟩]
              have HF := hid hfin; clear hfin
              go_wp2
              go_ret
              exact ⟨by rw [HV.out, HF.out]; rfl, hb04⟩
        · have hii : (!Lib.itoa n == s.toList) = true := by rw [Lib.toList_data]; simpa using hi
          have hfin : numV s.data.toList = halfV := by unfold numV; rw [HT.out]; simp only []; rw [if_neg (fun h => hi h.1)]
          have HF := hid hfin; clear hfin hi
          go_wp2
          go_ret
          exact ⟨by rw [HV.out, HF.out]; rfl, hb04⟩
      | _ =>
        have hbad : ∀ v, Lib.atoiAll s.data.toList ≠ .ok v := by intro v hv; rw [hat] at hv; cases hv
        have hfin : numV s.data.toList = halfV := by unfold numV; rw [hat]
        have HF := hid hfin; clear hfin
        refine (Atoi_bad s _ hs hT2 hbad).mono ?_
        clear hat hbad
        rintro e w3 ⟨⟨v, N, rfl⟩, hb3⟩
        have hb03 : Below w.heap.size w w3 := hb02.trans (hb3.mono hb02.size)
        go_wp2
        go_ret
        exact ⟨by rw [HV.out, HF.out]; rfl, hb03⟩

/-- A scalar's value. -/
structure Sc where
  kind : Int
  num : Int
  str : ByteArray
def scV (x : Sc) : Value := .agg #[.int .i64 x.kind, .int .i64 x.num, .string x.str]
def sc0 : Sc := ⟨0, 0, ⟨#[]⟩⟩
def scalarP : Value → Sc × Int
  | .iface _ (.float _ _) => (sc0, 50)
  | .iface _ (.bool b) => (⟨1, if b then 1 else 0, ⟨#[]⟩⟩, 0)
  | .iface _ (.int _ n) => (⟨2, n, ⟨#[]⟩⟩, 0)
  | .iface _ (.string s) => (⟨3, 0, s⟩, 0)
  | _ => (sc0, 0)
/-! A value is looked at: what each assertion says. -/
theorem as_nil_F (w : World) : (Instr.typeAssert .nilIface 20 40 true).run Tryd.prog w = .ok (.tuple #[.float .f64 0, .bool false]) w := by kernel_rfl
theorem as_F_F (v : Value) (w : World) : (Instr.typeAssert (.iface 40 v) 20 40 true).run Tryd.prog w = .ok (.tuple #[v, .bool true]) w := by kernel_rfl
theorem as_B_F (v : Value) (w : World) : (Instr.typeAssert (.iface 4 v) 20 40 true).run Tryd.prog w = .ok (.tuple #[.float .f64 0, .bool false]) w := by kernel_rfl
theorem as_I_F (v : Value) (w : World) : (Instr.typeAssert (.iface 3 v) 20 40 true).run Tryd.prog w = .ok (.tuple #[.float .f64 0, .bool false]) w := by kernel_rfl
theorem as_S_F (v : Value) (w : World) : (Instr.typeAssert (.iface 9 v) 20 40 true).run Tryd.prog w = .ok (.tuple #[.float .f64 0, .bool false]) w := by kernel_rfl
theorem as_nil_B (w : World) : (Instr.typeAssert .nilIface 20 4 true).run Tryd.prog w = .ok (.tuple #[.bool false, .bool false]) w := by kernel_rfl
theorem as_F_B (v : Value) (w : World) : (Instr.typeAssert (.iface 40 v) 20 4 true).run Tryd.prog w = .ok (.tuple #[.bool false, .bool false]) w := by kernel_rfl
theorem as_B_B (v : Value) (w : World) : (Instr.typeAssert (.iface 4 v) 20 4 true).run Tryd.prog w = .ok (.tuple #[v, .bool true]) w := by kernel_rfl
theorem as_I_B (v : Value) (w : World) : (Instr.typeAssert (.iface 3 v) 20 4 true).run Tryd.prog w = .ok (.tuple #[.bool false, .bool false]) w := by kernel_rfl
theorem as_S_B (v : Value) (w : World) : (Instr.typeAssert (.iface 9 v) 20 4 true).run Tryd.prog w = .ok (.tuple #[.bool false, .bool false]) w := by kernel_rfl
theorem as_nil_I (w : World) : (Instr.typeAssert .nilIface 20 3 true).run Tryd.prog w = .ok (.tuple #[.int .i64 0, .bool false]) w := by kernel_rfl
theorem as_F_I (v : Value) (w : World) : (Instr.typeAssert (.iface 40 v) 20 3 true).run Tryd.prog w = .ok (.tuple #[.int .i64 0, .bool false]) w := by kernel_rfl
theorem as_B_I (v : Value) (w : World) : (Instr.typeAssert (.iface 4 v) 20 3 true).run Tryd.prog w = .ok (.tuple #[.int .i64 0, .bool false]) w := by kernel_rfl
theorem as_I_I (v : Value) (w : World) : (Instr.typeAssert (.iface 3 v) 20 3 true).run Tryd.prog w = .ok (.tuple #[v, .bool true]) w := by kernel_rfl
theorem as_S_I (v : Value) (w : World) : (Instr.typeAssert (.iface 9 v) 20 3 true).run Tryd.prog w = .ok (.tuple #[.int .i64 0, .bool false]) w := by kernel_rfl
theorem as_nil_S (w : World) : (Instr.typeAssert .nilIface 20 9 true).run Tryd.prog w = .ok (.tuple #[.string ⟨#[]⟩, .bool false]) w := by kernel_rfl
theorem as_F_S (v : Value) (w : World) : (Instr.typeAssert (.iface 40 v) 20 9 true).run Tryd.prog w = .ok (.tuple #[.string ⟨#[]⟩, .bool false]) w := by kernel_rfl
theorem as_B_S (v : Value) (w : World) : (Instr.typeAssert (.iface 4 v) 20 9 true).run Tryd.prog w = .ok (.tuple #[.string ⟨#[]⟩, .bool false]) w := by kernel_rfl
theorem as_I_S (v : Value) (w : World) : (Instr.typeAssert (.iface 3 v) 20 9 true).run Tryd.prog w = .ok (.tuple #[.string ⟨#[]⟩, .bool false]) w := by kernel_rfl
theorem as_S_S (v : Value) (w : World) : (Instr.typeAssert (.iface 9 v) 20 9 true).run Tryd.prog w = .ok (.tuple #[v, .bool true]) w := by kernel_rfl
attribute [local go_sem] as_nil_F as_nil_B as_nil_I as_nil_S as_F_F as_B_F as_I_F as_S_F as_F_B as_B_B as_I_B as_S_B as_F_I as_B_I as_I_I as_S_I as_F_S as_B_S as_I_S as_S_S
/-- The values that a text may have. -/
def IsVal (v : Value) : Prop := v = .nilIface ∨ v = halfV ∨ (∃ b, v = .iface 4 (.bool b)) ∨ (∃ n, v = .iface 3 (.int .i64 n)) ∨ ∃ s, v = .iface 9 (.string s)

set_option maxRecDepth 100000 in
set_option maxHeartbeats 400000 in
theorem scalar_any (v : Value) (w : World) (hv : IsVal v) :
    Calls Tryd.prog 19 #[v] w fun e w' => e = .returned (.tuple #[scV (scalarP v).1, .int .i64 (scalarP v).2]) ∧ Below w.heap.size w w' := by
  rcases hv with rfl | rfl | ⟨b, rfl⟩ | ⟨n, rfl⟩ | ⟨s, rfl⟩
  · go_enter Tryd.func19, Tryd.ntmps19
    go_wp2
    exact bodyPost_ret (v := .tuple #[.agg #[.int .i64 0, .int .i64 0, .string ⟨#[]⟩], .int .i64 0]) (by simp [results, Tryd.results19, go_sem]) rfl ⟨rfl, by repeat (first | exact Below.refl _ _ | refine Below.alloc ?_ (by simp) _ | refine Below.setCell ?_ (by simp) _)⟩
  · unfold halfV
    go_enter Tryd.func19, Tryd.ntmps19
    go_wp2
    exact bodyPost_ret (v := .tuple #[.agg #[.int .i64 0, .int .i64 0, .string ⟨#[]⟩], .int .i64 50]) (by simp [results, Tryd.results19, go_sem]) rfl ⟨rfl, by repeat (first | exact Below.refl _ _ | refine Below.alloc ?_ (by simp) _ | refine Below.setCell ?_ (by simp) _)⟩
  · cases b
    · go_enter Tryd.func19, Tryd.ntmps19
      go_wp2
      exact bodyPost_ret (v := .tuple #[.agg #[.int .i64 1, .int .i64 0, .string ⟨#[]⟩], .int .i64 0]) (by simp [results, Tryd.results19, go_sem]) rfl ⟨rfl, by repeat (first | exact Below.refl _ _ | refine Below.alloc ?_ (by simp) _ | refine Below.setCell ?_ (by simp) _)⟩
    · go_enter Tryd.func19, Tryd.ntmps19
      go_wp2
      exact bodyPost_ret (v := .tuple #[.agg #[.int .i64 1, .int .i64 1, .string ⟨#[]⟩], .int .i64 0]) (by simp [results, Tryd.results19, go_sem]) rfl ⟨rfl, by repeat (first | exact Below.refl _ _ | refine Below.alloc ?_ (by simp) _ | refine Below.setCell ?_ (by simp) _)⟩
  · go_enter Tryd.func19, Tryd.ntmps19
    go_wp2
    exact bodyPost_ret (v := .tuple #[.agg #[.int .i64 2, .int .i64 n, .string ⟨#[]⟩], .int .i64 0]) (by simp [results, Tryd.results19, go_sem]) rfl ⟨rfl, by repeat (first | exact Below.refl _ _ | refine Below.alloc ?_ (by simp) _ | refine Below.setCell ?_ (by simp) _)⟩
  · go_enter Tryd.func19, Tryd.ntmps19
    go_wp2
    exact bodyPost_ret (v := .tuple #[.agg #[.int .i64 3, .int .i64 0, .string s], .int .i64 0]) (by simp [results, Tryd.results19, go_sem]) rfl ⟨rfl, by repeat (first | exact Below.refl _ _ | refine Below.alloc ?_ (by simp) _ | refine Below.setCell ?_ (by simp) _)⟩
end Go.Proofs.YtccjfoldjbmnfaaDoor
