/- What is proved: a part of the walk of the program and of its plain laws; no condition beside those that each theorem names. -/
import Derived.Test.YtaogfdffgdglkaaGreatDoorYc
import Derived.Test.YtaogfdffgdglkaaGreatDoorYMaps
import Derived.Test.YtaogfdffgdglkaaGreatDoorYa
import Derived.Lib.QuietBelow
namespace Go.Proofs.YtaogfdffgdglkaaGreatDoor
open Go Go.RowKit Go.Lib
set_option linter.unusedSimpArgs false
set_option linter.unusedVariables false
section
set_option maxRecDepth 100000
set_option maxHeartbeats 400000
def EP : Value := .iface 300 (.float .f64 4602678819172646912)
def Ed : List (ByteArray × Value) := [(⟨#[]⟩, .nilIface), (⟨#[110, 117, 108, 108]⟩, .nilIface), (⟨#[126]⟩, .nilIface), (⟨#[116, 114, 117, 101]⟩, .iface 4 (.bool true)), (⟨#[102, 97, 108, 115, 101]⟩, .iface 4 (.bool false)), (⟨#[46, 105, 110, 102]⟩, EP), (⟨#[43, 46, 105, 110, 102]⟩, EP), (⟨#[45, 46, 105, 110, 102]⟩, EP), (⟨#[46, 110, 97, 110]⟩, EP)]
theorem QN (w : World) (l : List (ByteArray × Value)) (a : ByteArray) (v : Value) (h : BH a l = none) :
  (Instr.mapUpdate 302 (.map (some w.heap.size)) (.string a) v).run Tryz.prog (w.alloc (CQ Value.string l)) = .ok () (w.alloc (CQ Value.string (l ++ [(a, v)]))) := by
 have := D6 (P := Tryz.prog) (enc := Value.string) Uu Ro (t := 302) (k := 9) (e := 20) (w := w.alloc (CQ Value.string l)) (l := l) Tryz.underlying302 Tryz.underlying9 (Wn w _) a v h
 rw [E1] at this
 exact this
def AJ (k : Nat) : Obj := CQ Value.string (Ed.take k)
theorem BC (w : World) (k : Nat) (a : ByteArray) (v : Value) (h : BH a (Ed.take k) = none) (hk : Ed.take (k + 1) = Ed.take k ++ [(a, v)]) :
  (Instr.mapUpdate 302 (.map (some w.heap.size)) (.string a) v).run Tryz.prog (w.alloc (AJ k)) = .ok () (w.alloc (AJ (k + 1))) := by
 unfold AJ
 rw [hk]
 exact QN w _ a v h
theorem PE (w : World) :
  Calls Tryz.prog 194 #[] w fun e w' => e = .returned (.map (some w.heap.size)) /\ w' = w.alloc (AJ 9) := by
 have hmm := @run_makeMap Tryz.prog
 have h0 : (Instr.mapUpdate 302 (.map (some w.heap.size)) (.string ⟨#[]⟩) .nilIface).run Tryz.prog (w.alloc (.map #[] 0)) = .ok () (w.alloc (AJ 1)) := BC w 0 ⟨#[]⟩ .nilIface rfl rfl
 have h1 : (Instr.mapUpdate 302 (.map (some w.heap.size)) (.string ⟨#[110, 117, 108, 108]⟩) .nilIface).run Tryz.prog (w.alloc (AJ 1)) = .ok () (w.alloc (AJ 2)) := BC w 1 ⟨#[110, 117, 108, 108]⟩ .nilIface (by decide +kernel) rfl
 have h2 : (Instr.mapUpdate 302 (.map (some w.heap.size)) (.string ⟨#[126]⟩) .nilIface).run Tryz.prog (w.alloc (AJ 2)) = .ok () (w.alloc (AJ 3)) := BC w 2 ⟨#[126]⟩ .nilIface (by decide +kernel) rfl
 have h3 : (Instr.mapUpdate 302 (.map (some w.heap.size)) (.string ⟨#[116, 114, 117, 101]⟩) (.iface 4 (.bool true))).run Tryz.prog (w.alloc (AJ 3)) = .ok () (w.alloc (AJ 4)) := BC w 3 ⟨#[116, 114, 117, 101]⟩ (.iface 4 (.bool true)) (by decide +kernel) rfl
 have h4 : (Instr.mapUpdate 302 (.map (some w.heap.size)) (.string ⟨#[102, 97, 108, 115, 101]⟩) (.iface 4 (.bool false))).run Tryz.prog (w.alloc (AJ 4)) = .ok () (w.alloc (AJ 5)) := BC w 4 ⟨#[102, 97, 108, 115, 101]⟩ (.iface 4 (.bool false)) (by decide +kernel) rfl
 have h5 : (Instr.mapUpdate 302 (.map (some w.heap.size)) (.string ⟨#[46, 105, 110, 102]⟩) (.iface 300 (.float .f64 4602678819172646912))).run Tryz.prog (w.alloc (AJ 5)) = .ok () (w.alloc (AJ 6)) := BC w 5 ⟨#[46, 105, 110, 102]⟩ (.iface 300 (.float .f64 4602678819172646912)) (by decide +kernel) rfl
 have h6 : (Instr.mapUpdate 302 (.map (some w.heap.size)) (.string ⟨#[43, 46, 105, 110, 102]⟩) (.iface 300 (.float .f64 4602678819172646912))).run Tryz.prog (w.alloc (AJ 6)) = .ok () (w.alloc (AJ 7)) := BC w 6 ⟨#[43, 46, 105, 110, 102]⟩ (.iface 300 (.float .f64 4602678819172646912)) (by decide +kernel) rfl
 have h7 : (Instr.mapUpdate 302 (.map (some w.heap.size)) (.string ⟨#[45, 46, 105, 110, 102]⟩) (.iface 300 (.float .f64 4602678819172646912))).run Tryz.prog (w.alloc (AJ 7)) = .ok () (w.alloc (AJ 8)) := BC w 7 ⟨#[45, 46, 105, 110, 102]⟩ (.iface 300 (.float .f64 4602678819172646912)) (by decide +kernel) rfl
 have h8 : (Instr.mapUpdate 302 (.map (some w.heap.size)) (.string ⟨#[46, 110, 97, 110]⟩) (.iface 300 (.float .f64 4602678819172646912))).run Tryz.prog (w.alloc (AJ 8)) = .ok () (w.alloc (AJ 9)) := BC w 8 ⟨#[46, 110, 97, 110]⟩ (.iface 300 (.float .f64 4602678819172646912)) (by decide +kernel) rfl
 go_enter Tryz.func194, Tryz.ntmps194
 go_wp2
 go_ret
 exact ⟨rfl, rfl⟩
theorem Nl (r : Nat) (w : World) :
  Calls Tryz.prog 210 #[.int .i32 r] w fun e w' => e = .returned (.bool (DK r)) /\ Below w.heap.size w w' := by
 by_cases h1 : (48 : Int) <= r /\ (r : Int) <= 57
 ·obtain ⟨h1, h2⟩ := h1
  have h1' : ¬ (r : Int) < 48 := by omega
  have h2' : ¬ 57 < (r : Int) := by omega
  go_enter Tryz.func210, Tryz.ntmps210
  go_wp2
  go_ret
  exact ⟨by rw [show DK r = false from (by unfold DK; rw [decide_eq_true (show 48 <= r by omega), decide_eq_true (show r <= 57 by omega)]; rfl)]; rfl, Bq _ _⟩
 ·have H1 := hid h1
  by_cases hlo : (r : Int) < 48
  ·clear h1
   go_enter Tryz.func210, Tryz.ntmps210
   go_wp2_with fail
   refine (F9 r [46, 101, 69, 43, 45, 95] _ _ _ rfl (by decide)).mono ?_
   rintro e w1 ⟨rfl, hb1⟩
   go_wp2
   go_ret
   exact ⟨by rw [show DK r = !(BT [46, 101, 69, 43, 45, 95] r) from (by unfold DK; rw [decide_eq_false (show ¬ 48 <= r by omega)]; simp)]; rfl, hb1⟩
  ·have hhi : 57 < (r : Int) := by omega
   clear h1
   go_enter Tryz.func210, Tryz.ntmps210
   go_wp2_with fail
   refine (F9 r [46, 101, 69, 43, 45, 95] _ _ _ rfl (by decide)).mono ?_
   rintro e w1 ⟨rfl, hb1⟩
   go_wp2
   go_ret
   exact ⟨by rw [show DK r = !(BT [46, 101, 69, 43, 45, 95] r) from (by unfold DK; rw [decide_eq_false (show ¬ r <= 57 by omega)]; simp)]; rfl, hb1⟩
theorem JB (w : World) : PredGrows Tryz.prog 210 #[] DK w := fun W x _ _ => by
 refine (Nl x W).mono ?_
 rintro e w' ⟨rfl, hb⟩
 exact ⟨rfl, hb⟩
theorem Lo (s : ByteArray) (w : World) :
  Calls Tryz.prog 195 #[.string s] w fun e w' => e = .returned (.bool (Jt s.data.toList)) /\ Below w.heap.size w w' := by
 go_enter Tryz.func195, Tryz.ntmps195
 go_wp2_with fail
 refine (Tryz.strings_TrimPrefix s ⟨#[43]⟩ _).mono ?_
 rintro e w1 ⟨rfl, hw1⟩
 subst hw1
 go_wp2_with fail
 refine (Tryz.strings_TrimPrefix ⟨(Lib.trimPrefix s.data.toList [43]).toArray⟩ ⟨#[45]⟩ _).mono ?_
 rintro e w2 ⟨rfl, hw2⟩
 subst hw2
 go_wp2_with fail
 refine (Tryz.strings_HasPrefix s ⟨#[43, 45]⟩ _).mono ?_
 rintro e w3 ⟨rfl, hw3⟩
 subst hw3
 cases hp : Lib.hasPrefix s.data.toList [43, 45] with
 | true =>
  have HP := hid hp; clear hp
  go_wp2
  go_ret
  exact ⟨by rw [show Jt s.data.toList = false from (by unfold Jt; rw [HP.out]; rfl)]; rfl, Bq _ _⟩
 | false =>
  have HP := hid hp; clear hp
  go_wp2_with fail
  refine (Tryz.strings_TrimPrefix ⟨(Lib.trimPrefix (Lib.trimPrefix s.data.toList [43]) [45]).toArray⟩ ⟨#[46]⟩ _).mono ?_
  rintro e w4 ⟨rfl, hw4⟩
  subst hw4
  obtain ⟨T, hTT⟩ : ∃ T : ByteArray, (⟨(Gp s.data.toList).toArray⟩ : ByteArray) = T := ⟨_, rfl⟩
  have hTT' : (⟨(Lib.trimPrefix (Lib.trimPrefix (Lib.trimPrefix s.data.toList [43]) [45]) [46]).toArray⟩ : ByteArray) = T := hTT
  rw [show (⟨(Lib.trimPrefix (⟨(Lib.trimPrefix (Lib.trimPrefix s.data.toList [43]) [45]).toArray⟩ : ByteArray).data.toList (⟨#[46]⟩ : ByteArray).data.toList).toArray⟩ : ByteArray) = T from hTT']
  clear hTT'
  have hTl : Gp s.data.toList = T.data.toList := by rw [<- hTT]
  have HTT := hid hTT; clear hTT
  have HT := hid hTl; clear hTl
  by_cases hT0 : 0 < T.size
  ·have hTe := AX hT0
   have hTi : (0 : Int) < (T.size : Int) := by omega
   have hl := GV T hT0
   obtain ⟨c, hc⟩ : ∃ c, T[0]'hT0 = c := ⟨_, rfl⟩
   rw [hc] at hl
   have HL := hid hl; clear hl
   have hemp : T.data.toList.isEmpty = false := by rw [HL.out]; rfl
   have HE := hid hemp; clear hemp
   have hhd : T.data.toList.headD 0 = c := by rw [HL.out]; rfl
   have HH := hid hhd; clear hhd
   by_cases hd : (48 : Int) <= c.toNat /\ (c.toNat : Int) <= 57
   ·obtain ⟨hd1, hd2⟩ := hd
    have hdig : Hr c = true := by unfold Hr; simp; omega
    have HD := hid hdig; clear hdig
    go_wp2_with fail
    refine (Tryz.strings_ContainsFunc_grows 210 #[] (enters_of Tryz.func210 (by kernel_rfl) rfl) DK T _ (JB _)).mono ?_
    rintro e w5 ⟨rfl, hb5⟩
    go_wp2
    go_ret
    exact ⟨by rw [show Jt s.data.toList = !(decide (0 <= Lib.idxFunc DK true T)) from (by unfold Jt; rw [HP.out, HTT.out, HT.out, HE.out, HH.out, HD.out]; rfl)]; rfl, hb5⟩
   ·have hdig : Hr c = false := by unfold Hr; simp; omega
    have HD := hid hdig; clear hdig
    have hfin : Jt s.data.toList = false := by unfold Jt; rw [HP.out, HT.out, HE.out, HH.out, HD.out]; rfl
    have HF := hid hfin; clear hfin
    by_cases hd1 : (48 : Int) <= c.toNat
    ·have hd2 : (57 : Int) < c.toNat := by omega
     clear hd
     go_wp2
     go_ret
     exact ⟨by rw [HF.out]; rfl, Bq _ _⟩
    ·clear hd
     go_wp2
     go_ret
     exact ⟨by rw [HF.out]; rfl, Bq _ _⟩
  ·have hTe := Bt hT0
   have hemp : T.data.toList.isEmpty = true := by rw [<- Lib.toList_data]; exact hTe
   have hfin : Jt s.data.toList = false := by unfold Jt; rw [HP.out, HT.out, hemp]; rfl
   have HF := hid hfin; clear hfin hemp
   go_wp2
   go_ret
   exact ⟨by rw [HF.out]; rfl, Bq _ _⟩
theorem MU (w : World) (k : Nat) (os : Array Obj) : Below w.heap.size w (Go.Sort.grow (w.drewN k) os) :=
 ⟨rfl, rfl, rfl, by show w.heap.size <= (w.heap ++ os).size; simp, fun i hi => by show (w.heap ++ os)[i]? = _; rw [Array.getElem?_append_left hi]⟩
theorem QM (n : Int) (w : World) (h0 : -9223372036854775808 <= n) (h1 : n <= 9223372036854775807) (hT : Bz w) :
  Calls Tryz.prog 197 #[.int .i64 n] w fun e w' => e = .returned (.string ⟨(Lib.itoa n).toArray⟩) /\ Below w.heap.size w w' := by
 refine (Tryz.strconv_Itoa n h0 h1 w hT.pow).mono ?_
 rintro e w' ⟨rfl, k, os, rfl⟩
 exact ⟨rfl, MU w k os⟩
theorem Uc (s : ByteArray) (v : Int) (w : World) (hs : s.size <= 1000000) (h : Lib.atoiAll s.data.toList = .ok v) :
  Calls Tryz.prog 196 #[.string s] w fun e w' => e = .returned (.tuple #[.int .i64 v, .nilIface]) /\ Below w.heap.size w w' := by
 refine (Tryz.strconv_Atoi_ok s (by omega) v h w).mono ?_
 rintro e w' ⟨rfl, rfl | ⟨t, rfl⟩⟩
 ·exact ⟨rfl, Bq _ _⟩
 ·exact ⟨rfl, Lib.bytesWorld_below _ _ _⟩
theorem RY (s : ByteArray) (w : World) (hs : s.size <= 1000000) (hT : Bz w) (h : ∀ v, Lib.atoiAll s.data.toList ≠ .ok v) :
  Calls Tryz.prog 196 #[.string s] w fun e w' => (∃ v N, e = .returned (.tuple #[.int .i64 v, .iface 332 (.pointer (some ⟨N, 0, none⟩))])) /\ Below w.heap.size w w' := by
 cases ha : Lib.atoiAll s.data.toList with
 | ok v => exact absurd ha (h v)
 | range =>
  obtain ⟨te, pe, hc⟩ := hT.rng
  refine (Tryz.strconv_Atoi_range s (by omega) ha _ w hc (.inr ⟨te, pe, rfl⟩)).mono ?_
  rintro e w' ⟨N, rfl, _, _, hb⟩
  exact ⟨⟨_, _, rfl⟩, hb⟩
 | _ =>
  obtain ⟨te, pe, hc⟩ := hT.syn
  refine (Tryz.strconv_Atoi_syntax s (by omega) h (fun h2 => by rw [ha] at h2; cases h2) _ w hc (.inr ⟨te, pe, rfl⟩)).mono ?_
  rintro e w' ⟨N, rfl, _, _, hb⟩
  exact ⟨⟨_, _, rfl⟩, hb⟩
def Hf (l : List UInt8) : Value := match Lib.atoiAll l with
 | .ok n => if Lib.itoa n = l /\ -999999999999999 <= n /\ n <= 999999999999999 then .iface 3 (.int .i64 n) else EP
 | _ => EP
def Dz (s : ByteArray) : Value := match BH s Ed with
 | some v => v
 | none => if Jt s.data.toList then Hf s.data.toList else .iface 9 (.string s)
theorem Oq (s : ByteArray) (w : World) (b : Nat) (hb : w.heap[b]? = some (AJ 9)) :
  (Instr.lookup 302 (.map (some b)) (.string s) true).run Tryz.prog w = .ok (.tuple #[(BH s Ed).getD .nilIface, .bool (BH s Ed).isSome]) w :=
 D2 (P := Tryz.prog) (enc := Value.string) Uu Ro (k := 9) (e := 20) (l := Ed) (z := .nilIface) Tryz.underlying302 Tryz.underlying9 (by kernel_rfl) hb s true
theorem JZ (s : ByteArray) (w : World) (hs : s.size <= 1000000) (hT : Bz w) :
  Calls Tryz.prog 182 #[.string s] w fun e w' => e = .returned (Dz s) /\ Below w.heap.size w w' := by
 go_enter Tryz.func182, Tryz.ntmps182
 go_wp2_with fail
 refine (PE _).mono ?_
 rintro e w1 ⟨rfl, hw1⟩
 have hb1 : Below w.heap.size w w1 := by rw [hw1]; exact (Bq _ _).alloc Nr _
 have hlk := Oq s w1 w.heap.size (by rw [hw1]; exact Wn _ _)
 have hT1 := hT.below hb1
 clear hw1
 cases ha : BH s Ed with
 | some v =>
  rw [ha] at hlk
  have HA := hid ha; clear ha
  simp only [Option.getD_some, Option.isSome_some] at hlk
  go_wp2
  go_ret
  exact ⟨by rw [show Dz s = v from (by unfold Dz; rw [HA.out])]; rfl, hb1⟩
 | none =>
  rw [ha] at hlk
  have HA := hid ha; clear ha
  simp only [Option.getD_none, Option.isSome_none] at hlk
  go_wp2_with fail
  refine (Lo s _).mono ?_
  rintro e w2 ⟨rfl, hb2⟩
  have hb02 : Below w.heap.size w w2 := hb1.trans (hb2.mono hb1.size)
  have hT2 := hT1.below hb2
  cases hn : Jt s.data.toList with
  | false =>
   have HN := hid hn; clear hn
   go_wp2
   go_ret
   exact ⟨by rw [show Dz s = .iface 9 (.string s) from (by unfold Dz; rw [HA.out, HN.out]; rfl)]; rfl, hb02⟩
  | true =>
   have HN := hid hn; clear hn
   have hval : Dz s = Hf s.data.toList := by unfold Dz; rw [HA.out, HN.out]; rfl
   have HV := hid hval; clear hval
   go_wp2_with fail
   cases hat : Lib.atoiAll s.data.toList with
   | ok n =>
    have hb := O6 hat
    have HT := hid hat
    refine (Uc s n _ hs hat).mono ?_
    clear hat
    rintro e w3 ⟨rfl, hb3⟩
    have hb03 : Below w.heap.size w w3 := hb02.trans (hb3.mono hb02.size)
    have hT3 := hT2.below hb3
    go_wp2_with fail
    refine (QM n _ hb.1 hb.2 hT3).mono ?_
    rintro e w4 ⟨rfl, hb4⟩
    have hb04 : Below w.heap.size w w4 := hb03.trans (hb4.mono hb03.size)
    by_cases hi : Lib.itoa n = s.data.toList
    ·have hii : (!Lib.itoa n == s.toList) = false := by rw [Lib.toList_data, hi]; simp
     have HI := hid hi; clear hi
     by_cases hlo : n < -999999999999999
     ·have hfin : Hf s.data.toList = EP := by unfold Hf; rw [HT.out]; simp only []; rw [if_neg (by omega)]
      have HF := hid hfin; clear hfin
      go_wp2
      go_ret
      exact ⟨by rw [HV.out, HF.out]; rfl, hb04⟩
     ·by_cases hhi : 999999999999999 < n
      ·have hfin : Hf s.data.toList = EP := by unfold Hf; rw [HT.out]; simp only []; rw [if_neg (by omega)]
       have HF := hid hfin; clear hfin
       go_wp2
       go_ret
       exact ⟨by rw [HV.out, HF.out]; rfl, hb04⟩
      ·have hfin : Hf s.data.toList = .iface 3 (.int .i64 n) := by unfold Hf; rw [HT.out]; simp only []; rw [if_pos ⟨HI.out, by omega, by omega⟩]
       have HF := hid hfin; clear hfin
       go_wp2
       go_ret
       exact ⟨by rw [HV.out, HF.out]; rfl, hb04⟩
    ·have hii : (!Lib.itoa n == s.toList) = true := by rw [Lib.toList_data]; simpa using hi
     have hfin : Hf s.data.toList = EP := by unfold Hf; rw [HT.out]; simp only []; rw [if_neg (fun h => hi h.1)]
     have HF := hid hfin; clear hfin hi
     go_wp2
     go_ret
     exact ⟨by rw [HV.out, HF.out]; rfl, hb04⟩
   | _ =>
    have hbad : ∀ v, Lib.atoiAll s.data.toList ≠ .ok v := by intro v hv; rw [hat] at hv; cases hv
    have hfin : Hf s.data.toList = EP := by unfold Hf; rw [hat]
    have HF := hid hfin; clear hfin
    refine (RY s _ hs hT2 hbad).mono ?_
    clear hat hbad
    rintro e w3 ⟨⟨v, N, rfl⟩, hb3⟩
    have hb03 : Below w.heap.size w w3 := hb02.trans (hb3.mono hb02.size)
    go_wp2
    go_ret
    exact ⟨by rw [HV.out, HF.out]; rfl, hb03⟩
structure Sc where
 kind : Int
 num : Int
 str : ByteArray
def Ia (x : Sc) : Value := .agg #[.int .i64 x.kind, .int .i64 x.num, .string x.str]
def CF : Sc := ⟨0, 0, ⟨#[]⟩⟩
def GI : Value -> Sc × Int
 | .iface _ (.float _ _) => (CF, 50)
 | .iface _ (.bool b) => (⟨1, if b then 1 else 0, ⟨#[]⟩⟩, 0)
 | .iface _ (.int _ n) => (⟨2, n, ⟨#[]⟩⟩, 0)
 | .iface _ (.string s) => (⟨3, 0, s⟩, 0)
 | _ => (CF, 0)
theorem RX (w : World) : (Instr.typeAssert .nilIface 20 300 true).run Tryz.prog w = .ok (.tuple #[.float .f64 0, .bool false]) w := by kernel_rfl
theorem Vd (v : Value) (w : World) : (Instr.typeAssert (.iface 300 v) 20 300 true).run Tryz.prog w = .ok (.tuple #[v, .bool true]) w := by kernel_rfl
theorem UZ (v : Value) (w : World) : (Instr.typeAssert (.iface 4 v) 20 300 true).run Tryz.prog w = .ok (.tuple #[.float .f64 0, .bool false]) w := by kernel_rfl
theorem UN (v : Value) (w : World) : (Instr.typeAssert (.iface 3 v) 20 300 true).run Tryz.prog w = .ok (.tuple #[.float .f64 0, .bool false]) w := by kernel_rfl
theorem UI (v : Value) (w : World) : (Instr.typeAssert (.iface 9 v) 20 300 true).run Tryz.prog w = .ok (.tuple #[.float .f64 0, .bool false]) w := by kernel_rfl
theorem RZ (w : World) : (Instr.typeAssert .nilIface 20 4 true).run Tryz.prog w = .ok (.tuple #[.bool false, .bool false]) w := by kernel_rfl
theorem Va (v : Value) (w : World) : (Instr.typeAssert (.iface 300 v) 20 4 true).run Tryz.prog w = .ok (.tuple #[.bool false, .bool false]) w := by kernel_rfl
theorem UY (v : Value) (w : World) : (Instr.typeAssert (.iface 4 v) 20 4 true).run Tryz.prog w = .ok (.tuple #[v, .bool true]) w := by kernel_rfl
theorem U4 (v : Value) (w : World) : (Instr.typeAssert (.iface 3 v) 20 4 true).run Tryz.prog w = .ok (.tuple #[.bool false, .bool false]) w := by kernel_rfl
theorem U2 (v : Value) (w : World) : (Instr.typeAssert (.iface 9 v) 20 4 true).run Tryz.prog w = .ok (.tuple #[.bool false, .bool false]) w := by kernel_rfl
theorem Se (w : World) : (Instr.typeAssert .nilIface 20 3 true).run Tryz.prog w = .ok (.tuple #[.int .i64 0, .bool false]) w := by kernel_rfl
theorem UB (v : Value) (w : World) : (Instr.typeAssert (.iface 300 v) 20 3 true).run Tryz.prog w = .ok (.tuple #[.int .i64 0, .bool false]) w := by kernel_rfl
theorem Uy (v : Value) (w : World) : (Instr.typeAssert (.iface 4 v) 20 3 true).run Tryz.prog w = .ok (.tuple #[.int .i64 0, .bool false]) w := by kernel_rfl
theorem UU (v : Value) (w : World) : (Instr.typeAssert (.iface 3 v) 20 3 true).run Tryz.prog w = .ok (.tuple #[v, .bool true]) w := by kernel_rfl
theorem U3 (v : Value) (w : World) : (Instr.typeAssert (.iface 9 v) 20 3 true).run Tryz.prog w = .ok (.tuple #[.int .i64 0, .bool false]) w := by kernel_rfl
theorem QZ (w : World) : (Instr.typeAssert .nilIface 20 9 true).run Tryz.prog w = .ok (.tuple #[.string ⟨#[]⟩, .bool false]) w := by kernel_rfl
theorem Vp (v : Value) (w : World) : (Instr.typeAssert (.iface 300 v) 20 9 true).run Tryz.prog w = .ok (.tuple #[.string ⟨#[]⟩, .bool false]) w := by kernel_rfl
theorem UG (v : Value) (w : World) : (Instr.typeAssert (.iface 4 v) 20 9 true).run Tryz.prog w = .ok (.tuple #[.string ⟨#[]⟩, .bool false]) w := by kernel_rfl
theorem US (v : Value) (w : World) : (Instr.typeAssert (.iface 3 v) 20 9 true).run Tryz.prog w = .ok (.tuple #[.string ⟨#[]⟩, .bool false]) w := by kernel_rfl
theorem Vi (v : Value) (w : World) : (Instr.typeAssert (.iface 9 v) 20 9 true).run Tryz.prog w = .ok (.tuple #[v, .bool true]) w := by kernel_rfl
attribute [local go_sem] RX RZ Se QZ Vd UZ UN UI Va UY U4 U2 UB Uy UU U3 Vp UG US Vi
def Ue (v : Value) : Prop := v = .nilIface \/ v = EP \/ (∃ b, v = .iface 4 (.bool b)) \/ (∃ n, v = .iface 3 (.int .i64 n)) \/ ∃ s, v = .iface 9 (.string s)
theorem IF (v : Value) (w : World) (hv : Ue v) :
  Calls Tryz.prog 181 #[v] w fun e w' => e = .returned (.tuple #[Ia (GI v).1, .int .i64 (GI v).2]) /\ Below w.heap.size w w' := by
 rcases hv with rfl | rfl | ⟨b, rfl⟩ | ⟨n, rfl⟩ | ⟨s, rfl⟩
 ·go_enter Tryz.func181, Tryz.ntmps181
  go_wp2
  exact bodyPost_ret (v := .tuple #[.agg #[.int .i64 0, .int .i64 0, .string ⟨#[]⟩], .int .i64 0]) (by simp [results, Tryz.results181, go_sem]) rfl ⟨rfl, by repeat (first | exact Bq _ _ | refine Below.alloc ?_ (by simp) _ | refine Below.setCell ?_ (by simp) _)⟩
 ·unfold EP
  go_enter Tryz.func181, Tryz.ntmps181
  go_wp2
  exact bodyPost_ret (v := .tuple #[.agg #[.int .i64 0, .int .i64 0, .string ⟨#[]⟩], .int .i64 50]) (by simp [results, Tryz.results181, go_sem]) rfl ⟨rfl, by repeat (first | exact Bq _ _ | refine Below.alloc ?_ (by simp) _ | refine Below.setCell ?_ (by simp) _)⟩
 ·cases b
  ·go_enter Tryz.func181, Tryz.ntmps181
   go_wp2
   exact bodyPost_ret (v := .tuple #[.agg #[.int .i64 1, .int .i64 0, .string ⟨#[]⟩], .int .i64 0]) (by simp [results, Tryz.results181, go_sem]) rfl ⟨rfl, by repeat (first | exact Bq _ _ | refine Below.alloc ?_ (by simp) _ | refine Below.setCell ?_ (by simp) _)⟩
  ·go_enter Tryz.func181, Tryz.ntmps181
   go_wp2
   exact bodyPost_ret (v := .tuple #[.agg #[.int .i64 1, .int .i64 1, .string ⟨#[]⟩], .int .i64 0]) (by simp [results, Tryz.results181, go_sem]) rfl ⟨rfl, by repeat (first | exact Bq _ _ | refine Below.alloc ?_ (by simp) _ | refine Below.setCell ?_ (by simp) _)⟩
 ·go_enter Tryz.func181, Tryz.ntmps181
  go_wp2
  exact bodyPost_ret (v := .tuple #[.agg #[.int .i64 2, .int .i64 n, .string ⟨#[]⟩], .int .i64 0]) (by simp [results, Tryz.results181, go_sem]) rfl ⟨rfl, by repeat (first | exact Bq _ _ | refine Below.alloc ?_ (by simp) _ | refine Below.setCell ?_ (by simp) _)⟩
 ·go_enter Tryz.func181, Tryz.ntmps181
  go_wp2
  exact bodyPost_ret (v := .tuple #[.agg #[.int .i64 3, .int .i64 0, .string s], .int .i64 0]) (by simp [results, Tryz.results181, go_sem]) rfl ⟨rfl, by repeat (first | exact Bq _ _ | refine Below.alloc ?_ (by simp) _ | refine Below.setCell ?_ (by simp) _)⟩
end
section
set_option maxRecDepth 100000
set_option maxHeartbeats 400000
theorem Ki {α : Type} [BEq α] {a : α} : ∀ {l : List (α × Value)} {v : Value}, BH a l = some v -> ∃ p ∈ l, p.2 = v
 | [], _, h => by simp [BH] at h
 | p :: l, v, h => by
  unfold BH at h
  split at h
  ·exact ⟨p, by simp, by injection h⟩
  ·obtain ⟨q, hq, e⟩ := Ki h
   exact ⟨q, by simp [hq], e⟩
theorem LP (s : ByteArray) : Ue (Dz s) := by
 unfold Dz
 split
 ·rename_i v h
  obtain ⟨p, hp, rfl⟩ := Ki h
  simp only [Ed, List.mem_cons, List.not_mem_nil, or_false] at hp
  rcases hp with rfl | rfl | rfl | rfl | rfl | rfl | rfl | rfl | rfl
  ·exact .inl rfl
  ·exact .inl rfl
  ·exact .inl rfl
  ·exact .inr (.inr (.inl ⟨true, rfl⟩))
  ·exact .inr (.inr (.inl ⟨false, rfl⟩))
  ·exact .inr (.inl rfl)
  ·exact .inr (.inl rfl)
  ·exact .inr (.inl rfl)
  ·exact .inr (.inl rfl)
 ·split
  ·unfold Hf
   split
   ·split
    ·exact .inr (.inr (.inr (.inl ⟨_, rfl⟩)))
    ·exact .inr (.inl rfl)
   ·exact .inr (.inl rfl)
  ·exact .inr (.inr (.inr (.inr ⟨_, rfl⟩)))
def Cc (s : ByteArray) : Sc × Int := if !s.data.toList.isEmpty && !Gh s.data.toList false then (CF, 51) else GI (Dz s)
theorem Mv (s : ByteArray) (w : World) (hs : s.size <= 1000000) (hT : Bz w) :
  Calls Tryz.prog 164 #[.string s] w fun e w' => e = .returned (.tuple #[Ia (Cc s).1, .int .i64 (Cc s).2]) /\ Below w.heap.size w w' := by
 have tail : ∀ w1 : World, Below w.heap.size w w1 -> Bz w1 -> (s.data.toList.isEmpty = true \/ Gh s.data.toList false = true) -> Cc s = GI (Dz s) := fun _ _ _ h => by
  unfold Cc
  rcases h with h | h <;> simp [h]
 have TAIL := hid tail; clear tail
 obtain ⟨⟨⟨k, n, t⟩, er⟩, hx⟩ : ∃ p, GI (Dz s) = p := ⟨_, rfl⟩
 have HX := hid hx; clear hx
 have hv := LP s
 by_cases h0 : 0 < s.size
 ·have he := AX h0
  have hne : s.data.toList.isEmpty = false := by rw [<- Lib.toList_data]; exact he
  have HE := hid hne; clear hne
  go_enter Tryz.func164, Tryz.ntmps164
  go_wp2_with fail
  refine (OU s false _ hs (hT.below ((Bq _ w).alloc Nr _))).mono ?_
  rintro e w1 ⟨rfl, hb1⟩
  have hbw : Below w.heap.size w w1 := ((Bq _ w).alloc Nr _).trans (hb1.mono (by simp))
  have hT1 := hT.below hbw
  have hk := Jq _ _ hb1
  cases hm : Gh s.data.toList false with
  | false =>
   obtain ⟨c0, c1, c2, f0, f1, f2⟩ := Az hk
   have HM := hid hm; clear hm hk
   go_wp2
   refine bodyPost_ret (v := .tuple #[.agg #[.int .i64 0, .int .i64 0, .string ⟨#[]⟩], .int .i64 51]) (by simp [results, Tryz.results164, go_sem, c0, c1, c2]) rfl ⟨?_, ?_⟩
   ·rw [show Cc s = (CF, 51) from (by unfold Cc; rw [HE.out, HM.out]; rfl)]; rfl
   ·repeat (first | exact hbw | refine Below.setCell ?_ (by simp) _)
  | true =>
   have HR := hid (TAIL.out w1 hbw hT1 (.inr hm)); clear hm
   go_wp2_with fail
   refine (JZ s _ hs hT1).mono ?_
   rintro e w2 ⟨rfl, hb2⟩
   go_wp2_with fail
   refine (IF _ _ hv).mono ?_
   rw [HX.out]
   unfold Ia
   rintro e w3 ⟨rfl, hb3⟩
   have hk3 := Aa (Aa hk hb2) hb3
   have hb03 : Below w.heap.size w w3 := (hbw.trans (hb2.mono hbw.size)).trans (hb3.mono (Nat.le_trans hbw.size hb2.size))
   obtain ⟨c0, c1, c2, f0, f1, f2⟩ := Az hk3
   clear hk hk3
   go_wp2
   refine bodyPost_ret (v := .tuple #[.agg #[.int .i64 k, .int .i64 n, .string t], .int .i64 er]) (by simp [results, Tryz.results164, go_sem, c0, c1, c2]) rfl ⟨?_, ?_⟩
   ·rw [HR.out, HX.out]; rfl
   ·repeat (first | exact hb03 | refine Below.setCell ?_ (by simp) _)
 ·have he := Bt h0
  have hne : s.data.toList.isEmpty = true := by rw [<- Lib.toList_data]; exact he
  have hT1 := hT.below ((Bq _ w).alloc Nr (.cells #[.int .i64 0, .int .i64 0, .string ⟨#[]⟩] 26))
  have HR := hid (TAIL.out _ ((Bq _ w).alloc Nr _) hT1 (.inl hne)); clear hne
  go_enter Tryz.func164, Tryz.ntmps164
  go_wp2_with fail
  refine (JZ s _ hs hT1).mono ?_
  rintro e w2 ⟨rfl, hb2⟩
  go_wp2_with fail
  refine (IF _ _ hv).mono ?_
  rw [HX.out]
  unfold Ia
  rintro e w3 ⟨rfl, hb3⟩
  have hk3 := Aa (Jq _ _ hb2) hb3
  have hb03 : Below w.heap.size w w3 := (((Bq _ w).alloc Nr _).trans (hb2.mono (by simp))).trans (hb3.mono (by have := hb2.size; simp at this; omega))
  obtain ⟨c0, c1, c2, f0, f1, f2⟩ := Az hk3
  clear hk3
  go_wp2
  refine bodyPost_ret (v := .tuple #[.agg #[.int .i64 k, .int .i64 n, .string t], .int .i64 er]) (by simp [results, Tryz.results164, go_sem, c0, c1, c2]) rfl ⟨?_, ?_⟩
  ·rw [HR.out, HX.out]; rfl
  ·repeat (first | exact hb03 | refine Below.setCell ?_ (by simp) _)
end
end Go.Proofs.YtaogfdffgdglkaaGreatDoor
