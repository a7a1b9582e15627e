/- What is proved: a part of the walk of the program and of its plain laws; no condition beside those that each theorem names. -/
import Derived.Test.YtaogfdffgdglkaaGreatDoorYo
import Derived.Test.YtaogfdffgdglkaaGreatDoorYk
import Derived.Test.YtaogfdffgdglkaaGreatDoorYa
namespace Go.Proofs.YtaogfdffgdglkaaGreatDoor
open Go Go.RowKit Go.Lib
set_option linter.unusedSimpArgs false
set_option linter.unusedVariables false
section
set_option maxRecDepth 100000
set_option maxHeartbeats 1000000
def GF (s : List UInt8) : List UInt8 := s.takeWhile (· != 10)
def Dd (s : List UInt8) : List UInt8 := (s.dropWhile (· != 10)).drop 1
theorem FG {s : List UInt8} (h : s ≠ []) : (Dd s).length < s.length := by
 unfold Dd
 rw [List.length_drop]
 have h1 := (List.dropWhile_sublist (· != 10) (l := s)).length_le
 have h2 : 0 < s.length := List.length_pos_iff.2 h
 omega
theorem QQ (s : List UInt8) : (GF s).length <= s.length := (List.takeWhile_sublist _).length_le
theorem Rl : ∀ s : List UInt8, (Lib.cut s [10]).1 = GF s /\ (Lib.cut s [10]).2.1 = Dd s
 | [] => by refine ⟨by kernel_rfl, by kernel_rfl⟩
 | b :: l => by
  obtain ⟨h1, h2⟩ := Rl l
  have hge := Lib.index_ge l [10]
  unfold Lib.cut at h1 h2 |-
  have hi : Lib.index (b :: l) [10] = if ([10] : List UInt8).isPrefixOf (b :: l) then 0 else if Lib.index l [10] == -1 then -1 else Lib.index l [10] + 1 := by rw [Lib.index]
  have hp : ([10] : List UInt8).isPrefixOf (b :: l) = (b == 10) := by
   simp [List.isPrefixOf]
   rw [Bool.eq_iff_iff]; simp; exact eq_comm
  rw [hp] at hi
  by_cases hb : b = 10
  ·subst hb
   rw [if_pos (by rfl)] at hi
   rw [hi]
   simp [GF, Dd]
  ·have hb1 : (b == 10) = false := by simpa using hb
   have hb2 : (b != 10) = true := by simpa using hb
   rw [hb1, if_neg (by simp)] at hi
   have e1 : GF (b :: l) = b :: GF l := by unfold GF; rw [List.takeWhile_cons, if_pos hb2]
   have e2 : Dd (b :: l) = Dd l := by unfold Dd; rw [List.dropWhile_cons, if_pos hb2]
   rw [e1, e2]
   by_cases h0 : 0 <= Lib.index l [10]
   ·rw [if_pos h0] at h1 h2
    have hne : (Lib.index l [10] == -1) = false := by rw [beq_eq_false_iff_ne]; omega
    rw [hne, if_neg (by simp)] at hi
    rw [hi, if_pos (by omega)]
    obtain ⟨i, hii⟩ : ∃ i : Nat, Lib.index l [10] = i := ⟨(Lib.index l [10]).toNat, by omega⟩
    rw [hii] at h1 h2 |-
    simp only [Int.toNat_natCast, List.length_cons, List.length_nil] at h1 h2 |-
    rw [show ((i : Int) + 1).toNat = i + 1 by omega]
    refine ⟨by rw [List.take_succ_cons, h1], ?_⟩
    rw [show i + 1 + (0 + 1) = (i + (0 + 1)) + 1 by omega, List.drop_succ_cons, h2]
   ·rw [if_neg h0] at h1 h2
    have hne : (Lib.index l [10] == -1) = true := by rw [beq_iff_eq]; omega
    rw [hne, if_pos rfl] at hi
    rw [hi, if_neg (by omega)]
    exact ⟨by rw [<- h1], h2⟩
def Fb : Nat -> List UInt8 -> List (List UInt8)
 | 0, _ => []
 | f + 1, s => if s = [] then [] else GF s :: Fb f (Dd s)
theorem Jp : ∀ (f g : Nat) (s : List UInt8), s.length <= f -> s.length <= g -> Fb f s = Fb g s
 | 0, 0, _, _, _ => rfl
 | 0, g + 1, s, h, _ => by rw [List.eq_nil_of_length_eq_zero (by omega : s.length = 0)]; rfl
 | f + 1, 0, s, _, h => by rw [List.eq_nil_of_length_eq_zero (by omega : s.length = 0)]; rfl
 | f + 1, g + 1, s, hf, hg => by
  unfold Fb
  split
  ·rfl
  ·rename_i h
   have := FG h
   rw [Jp f g _ (by omega) (by omega)]
def CS (s : List UInt8) : List (List UInt8) := Fb s.length s
theorem Qi : CS [] = [] := rfl
theorem Ow {s : List UInt8} (h : s ≠ []) : CS s = GF s :: CS (Dd s) := by
 have hl := FG h
 obtain ⟨n, hn⟩ : ∃ n, s.length = n + 1 := ⟨s.length - 1, by omega⟩
 unfold CS
 rw [hn]
 conv => lhs; unfold Fb
 rw [if_neg h, Jp n (Dd s).length _ (by omega) Nr]
def Cr (m r : List UInt8) : Bool := Lib.hasPrefix r m && ((r.drop m.length).isEmpty || (r.drop m.length).getD 0 0 == 32)
def Er (r : List UInt8) : Bool := Cr [45, 45, 45] r || Cr [46, 46, 46] r
def BL (r : List UInt8) : Bool := (AH r).all Aq
def Bj (r : List UInt8) : Int := if BL r then (if Er r then 81 else 0) else 80
def Dx (r : List UInt8) : List UInt8 := Lib.trimLeftB r 32
def GR (r : List UInt8) : Bool := !(Dx r).isEmpty && (Dx r).getD 0 0 != 35
theorem Qw (r : List UInt8) : (Dx r).length <= r.length := (List.dropWhile_sublist _).length_le
theorem Jc (s p : ByteArray) (w : World) (hs : s.size <= 1000000) :
  Calls Tryz.prog 126 #[.string s, .string p] w fun e w' => e = .returned (if Lib.hasPrefix s.data.toList p.data.toList then .tuple #[.string ⟨(s.data.toList.drop p.size).toArray⟩, .bool true] else .tuple #[.string s, .bool false]) /\ w' = w := by
 have hH := Tryz.stringslite_HasPrefix s p w
 cases hp : Lib.hasPrefix s.data.toList p.data.toList with
 | false =>
  rw [hp] at hH
  go_enter Tryz.func126, Tryz.ntmps126
  go_wp2_with fail
  refine hH.mono ?_
  rintro e w1 ⟨rfl, hw⟩
  subst w1
  go_wp2
  exact bodyPost_ret (v := .tuple #[.string s, .bool false]) (by simp [results, Tryz.results126, go_sem]) rfl ⟨rfl, rfl⟩
 | true =>
  rw [hp] at hH
  have hle : p.size <= s.size := by
   have := (List.isPrefixOf_iff_prefix.1 hp).length_le
   rw [<- Lib.size_eq, <- Lib.size_eq] at this; exact this
  have hex : s.extract p.size s.size = ⟨(s.data.toList.drop p.size).toArray⟩ := by
   rw [Lib.extract_eq, List.take_of_length_le (by rw [List.length_drop, <- Lib.size_eq]; exact Nat.le_refl _)]
  have hlei : (p.size : Int) <= (s.size : Int) := by omega
  go_enter Tryz.func126, Tryz.ntmps126
  go_wp2_with fail
  refine hH.mono ?_
  rintro e w1 ⟨rfl, hw⟩
  subst w1
  go_wp2
  exact bodyPost_ret (v := .tuple #[.string ⟨(s.data.toList.drop p.size).toArray⟩, .bool true]) (by simp [results, Tryz.results126, go_sem]) rfl ⟨rfl, rfl⟩
theorem FM (s p : ByteArray) (w : World) (hs : s.size <= 1000000) :
  Calls Tryz.prog 91 #[.string s, .string p] w fun e w' => e = .returned (if Lib.hasPrefix s.data.toList p.data.toList then .tuple #[.string ⟨(s.data.toList.drop p.size).toArray⟩, .bool true] else .tuple #[.string s, .bool false]) /\ w' = w := by
 have hH := Jc s p w hs
 cases hp : Lib.hasPrefix s.data.toList p.data.toList with
 | false =>
  rw [hp, if_neg (by simp)] at hH
  go_enter Tryz.func91, Tryz.ntmps91
  go_wp2_with fail
  refine hH.mono ?_
  rintro e w1 ⟨rfl, hw⟩
  subst w1
  go_wp2
  exact bodyPost_ret (v := .tuple #[.string s, .bool false]) (by simp [results, Tryz.results91, go_sem]) rfl ⟨rfl, rfl⟩
 | true =>
  rw [hp, if_pos rfl] at hH
  go_enter Tryz.func91, Tryz.ntmps91
  go_wp2_with fail
  refine hH.mono ?_
  rintro e w1 ⟨rfl, hw⟩
  subst w1
  go_wp2
  exact bodyPost_ret (v := .tuple #[.string ⟨(s.data.toList.drop p.size).toArray⟩, .bool true]) (by simp [results, Tryz.results91, go_sem]) rfl ⟨rfl, rfl⟩
theorem ID (s : ByteArray) (w : World) (hs : s.size <= 1000000) :
  Calls Tryz.prog 58 #[.agg #[.string s]] w fun e w' => e = .returned (.bool (BL s.data.toList)) /\ Below w.heap.size w w' := by
 obtain ⟨N, hN⟩ : ∃ N, w.heap.size + 1 = N := ⟨_, rfl⟩
 go_enter Tryz.func58, Tryz.ntmps58
 go_wp2
 go_loopw [2] (fun r wr => r = .bool false /\ ∃ pos, pos <= s.size /\ wr.heap[N]? = some (.stringIter s pos) /\ Below w.heap.size w wr /\ Hid (BL s.data.toList = BL (s.data.toList.drop pos))) (fun _ wr => s.size - wr.iterPos N)
 case atStart => exact ⟨rfl, 0, by omega, by rw [<- hN, <- World.size_alloc w (.cells #[.string s] 79)]; exact World.iter_heap _ _ _, ((Bq _ w).alloc Nr _).alloc (by simp) _, hid rfl⟩
 case round =>
  obtain ⟨rfl, pos, hp, hit, hb, HV⟩ := hrel
  have hNw : w.heap.size <= N := by omega
  by_cases hlt : pos < s.size
  ·have hnx := fun ty => run_next_any_at (P := Tryz.prog) wr N s pos ty hit hlt
   have hbi : Below w.heap.size w (wr.iterAt N s (pos + (Utf8.decode s pos).2)) := below_iterAt hb hNw _ _
   have hit1 := iterAt_heap _ _ _ pos (pos + (Utf8.decode s pos).2) hit
   have hw := Ce s pos hlt
   have hst : BL (s.data.toList.drop pos) = (Aq (Utf8.decode s pos).1 && BL (s.data.toList.drop (pos + (Utf8.decode s pos).2))) := by
    unfold BL
    rw [Cs _ (by rw [FE s pos hlt]; simp), List.all_cons, Lib.decodeL_drop, List.drop_drop]
   obtain ⟨⟨r, k⟩, hrk⟩ : ∃ x, Utf8.decode s pos = x := ⟨_, rfl⟩
   rw [hrk] at hst hnx hbi hit1 hw
   dsimp only at hst hnx hbi hit1 hw
   have HST := hid hst
   have hm1 := CK hit
   have hm2 := CK hit1
   have HM := hid (Ai hm1 (Ai hm2 hw))
   have HI1 := hid hit1
   clear hm1 hm2 hst hit1 hrk
   by_cases h1 : r < 32
   ·have h1i : (r : Int) < 32 := by omega
    have HF := hid (show BL s.data.toList = false by
     have : Aq r = false := by unfold Aq Ch; simp; omega
     rw [HV.out, HST.out, this]; rfl)
    go_wp2
    go_ret
    exact ⟨by rw [HF.out]; rfl, hbi⟩
   ·have h1i : ¬ (r : Int) < 32 := by omega
    by_cases h2 : r = 127
    ·have h2i : ((r : Int) == 127) = true := by simp; omega
     have HF := hid (show BL s.data.toList = false by
      have : Aq r = false := by unfold Aq Ch; simp; omega
      rw [HV.out, HST.out, this]; rfl)
     clear h2
     go_wp2
     go_ret
     exact ⟨by rw [HF.out]; rfl, hbi⟩
    ·have h2i : ((r : Int) == 127) = false := by simp; omega
     have HV' := hid (show BL s.data.toList = BL (s.data.toList.drop (pos + k)) by
      have : Aq r = true := by unfold Aq Ch; simp; omega
      rw [HV.out, HST.out, this]; rfl)
     clear h2 hit
     go_wp2
     go_roundw
     case rel => exact ⟨rfl, pos + k, HM.out.2.2.1, HI1.out, hbi, HV'⟩
     case measure => rw [HM.out.1, HM.out.2.1]; have := HM.out.2.2.2; have := HM.out.2.2.1; omega
  ·have hnx := fun ty => run_next_end_at (P := Tryz.prog) wr N s pos ty hit hlt
   have HF := hid (show BL s.data.toList = true by rw [HV.out, List.drop_eq_nil_of_le (by rw [<- Lib.size_eq]; omega)]; rfl)
   clear hit HV
   go_wp2
   go_ret
   exact ⟨by rw [HF.out]; rfl, by first | exact hb | exact (below_iterAt hb hNw _ _)⟩
theorem UH (w : World) : (Instr.index 180 (.agg #[.string ⟨#[45, 45, 45]⟩, .string ⟨#[46, 46, 46]⟩]) (.int .i64 0)).run Tryz.prog w = .ok (.string ⟨#[45, 45, 45]⟩) w := by kernel_rfl
theorem Uw (w : World) : (Instr.index 180 (.agg #[.string ⟨#[45, 45, 45]⟩, .string ⟨#[46, 46, 46]⟩]) (.int .i64 1)).run Tryz.prog w = .ok (.string ⟨#[46, 46, 46]⟩) w := by kernel_rfl
theorem Ss {c k : UInt8} (h : ¬ c = k) : ((c.toNat : Int) == (k.toNat : Int)) = false := by
 rw [beq_eq_false_iff_ne]
 intro e
 exact h (UInt8.toNat_inj.1 (by omega))
theorem Op (s : ByteArray) (w : World) (hs : s.size <= 1000000) :
  Calls Tryz.prog 59 #[.agg #[.string s]] w fun e w' => e = .returned (.bool (Er s.data.toList)) /\ Below w.heap.size w w' := by
 have b0 := Boxed.new w 79 (.string s)
 have c0 := b0.cell
 have HB := hid (show Below w.heap.size w (w.alloc (.cells #[.string s] 79)) from (Bq _ w).alloc Nr _)
 have h1 := fun wx => FM s ⟨#[45, 45, 45]⟩ wx hs
 have h2 := fun wx => FM s ⟨#[46, 46, 46]⟩ wx hs
 clear b0
 have x0 := UH
 have x1 := Uw
 go_enter Tryz.func59, Tryz.ntmps59
 go_wp2
 refine wp_loop_rounds 3 ?_
 rw [rounds_succ]
 go_wp2_with fail
 refine (h1 _).mono ?_
 rintro e w1 ⟨he, hw⟩
 subst w1
 cases hp : Lib.hasPrefix s.data.toList [45, 45, 45] with
 | false =>
  rw [hp, if_neg (by simp)] at he
  subst he
  have HP1 := hid (show Cr [45, 45, 45] s.data.toList = false by unfold Cr; rw [hp]; rfl)
  clear hp
  go_wp2
  rw [rounds_succ]
  go_wp2_with fail
  refine (h2 _).mono ?_
  rintro e w1 ⟨he, hw⟩
  subst w1
  cases hp : Lib.hasPrefix s.data.toList [46, 46, 46] with
  | false =>
   rw [hp, if_neg (by simp)] at he
   subst he
   have HP2 := hid (show Cr [46, 46, 46] s.data.toList = false by unfold Cr; rw [hp]; rfl)
   clear hp
   go_wp2
   rw [rounds_succ]
   go_wp2
   go_ret
   exact ⟨by unfold Er; rw [HP1.out, HP2.out]; rfl, HB.out⟩
  | true =>
   obtain ⟨R, hR⟩ : ∃ R : ByteArray, (⟨(s.data.toList.drop (⟨#[46, 46, 46]⟩ : ByteArray).size).toArray⟩ : ByteArray) = R := ⟨_, rfl⟩
   rw [hp, if_pos rfl, hR] at he
   subst he
   have HR := hid (show Cr [46, 46, 46] s.data.toList = (R.data.toList.isEmpty || R.data.toList.getD 0 0 == 32) by unfold Cr; rw [hp, <- hR]; rfl)
   clear hp hR
   by_cases hz : 0 < R.size
   ·have he1 := AX hz
    have hg := Cw R 0 hz
    obtain ⟨c, hc⟩ : ∃ c, R[0] = c := ⟨_, rfl⟩
    rw [hc] at hg
    have hee : R.data.toList.isEmpty = false := by rw [<- Lib.toList_data]; exact he1
    by_cases h32 : c = 32
    ·have HP2 := hid (show Cr [46, 46, 46] s.data.toList = true by rw [HR.out, hg, h32]; simp)
     have hci : ((c.toNat : Int) == 32) = true := by rw [h32]; rfl
     clear h32 hg hee HR
     go_wp2
     go_ret
     exact ⟨by unfold Er; rw [HP2.out]; simp, HB.out⟩
    ·have HP2 := hid (show Cr [46, 46, 46] s.data.toList = false by rw [HR.out, hee, hg]; simpa using h32)
     have hci : ((c.toNat : Int) == 32) = false := Ss (k := 32) h32
     clear h32 hg hee HR
     go_wp2
     rw [rounds_succ]
     go_wp2
     go_ret
     exact ⟨by unfold Er; rw [HP1.out, HP2.out]; rfl, HB.out⟩
   ·have he1 := Bt hz
    have hee : R.data.toList.isEmpty = true := by rw [<- Lib.toList_data]; exact he1
    have HP2 := hid (show Cr [46, 46, 46] s.data.toList = true by rw [HR.out, hee]; rfl)
    clear hee HR
    go_wp2
    go_ret
    exact ⟨by unfold Er; rw [HP2.out]; simp, HB.out⟩
 | true =>
  obtain ⟨R, hR⟩ : ∃ R : ByteArray, (⟨(s.data.toList.drop (⟨#[45, 45, 45]⟩ : ByteArray).size).toArray⟩ : ByteArray) = R := ⟨_, rfl⟩
  rw [hp, if_pos rfl, hR] at he
  subst he
  have HR := hid (show Cr [45, 45, 45] s.data.toList = (R.data.toList.isEmpty || R.data.toList.getD 0 0 == 32) by unfold Cr; rw [hp, <- hR]; rfl)
  clear hp hR
  by_cases hz : 0 < R.size
  ·have he1 := AX hz
   have hg := Cw R 0 hz
   obtain ⟨c, hc⟩ : ∃ c, R[0] = c := ⟨_, rfl⟩
   rw [hc] at hg
   have hee : R.data.toList.isEmpty = false := by rw [<- Lib.toList_data]; exact he1
   by_cases h32 : c = 32
   ·have HP1 := hid (show Cr [45, 45, 45] s.data.toList = true by rw [HR.out, hg, h32]; simp)
    have hci : ((c.toNat : Int) == 32) = true := by rw [h32]; rfl
    clear h32 hg hee HR
    go_wp2
    go_ret
    exact ⟨by unfold Er; rw [HP1.out]; rfl, HB.out⟩
   ·have HP1 := hid (show Cr [45, 45, 45] s.data.toList = false by rw [HR.out, hee, hg]; simpa using h32)
    have hci : ((c.toNat : Int) == 32) = false := Ss (k := 32) h32
    clear h32 hg hee HR
    go_wp2
    rw [rounds_succ]
    go_wp2_with fail
    refine (h2 _).mono ?_
    rintro e w1 ⟨he, hw⟩
    subst w1
    cases hp : Lib.hasPrefix s.data.toList [46, 46, 46] with
    | false =>
     rw [hp, if_neg (by simp)] at he
     subst he
     have HP2 := hid (show Cr [46, 46, 46] s.data.toList = false by unfold Cr; rw [hp]; rfl)
     clear hp
     go_wp2
     rw [rounds_succ]
     go_wp2
     go_ret
     exact ⟨by unfold Er; rw [HP1.out, HP2.out]; rfl, HB.out⟩
    | true =>
     obtain ⟨R, hR⟩ : ∃ R : ByteArray, (⟨(s.data.toList.drop (⟨#[46, 46, 46]⟩ : ByteArray).size).toArray⟩ : ByteArray) = R := ⟨_, rfl⟩
     rw [hp, if_pos rfl, hR] at he
     subst he
     have HR := hid (show Cr [46, 46, 46] s.data.toList = (R.data.toList.isEmpty || R.data.toList.getD 0 0 == 32) by unfold Cr; rw [hp, <- hR]; rfl)
     clear hp hR
     by_cases hz : 0 < R.size
     ·have he1 := AX hz
      have hg := Cw R 0 hz
      obtain ⟨c, hc⟩ : ∃ c, R[0] = c := ⟨_, rfl⟩
      rw [hc] at hg
      have hee : R.data.toList.isEmpty = false := by rw [<- Lib.toList_data]; exact he1
      by_cases h32 : c = 32
      ·have HP2 := hid (show Cr [46, 46, 46] s.data.toList = true by rw [HR.out, hg, h32]; simp)
       have hci : ((c.toNat : Int) == 32) = true := by rw [h32]; rfl
       clear h32 hg hee HR
       go_wp2
       go_ret
       exact ⟨by unfold Er; rw [HP2.out]; simp, HB.out⟩
      ·have HP2 := hid (show Cr [46, 46, 46] s.data.toList = false by rw [HR.out, hee, hg]; simpa using h32)
       have hci : ((c.toNat : Int) == 32) = false := Ss (k := 32) h32
       clear h32 hg hee HR
       go_wp2
       rw [rounds_succ]
       go_wp2
       go_ret
       exact ⟨by unfold Er; rw [HP1.out, HP2.out]; rfl, HB.out⟩
     ·have he1 := Bt hz
      have hee : R.data.toList.isEmpty = true := by rw [<- Lib.toList_data]; exact he1
      have HP2 := hid (show Cr [46, 46, 46] s.data.toList = true by rw [HR.out, hee]; rfl)
      clear hee HR
      go_wp2
      go_ret
      exact ⟨by unfold Er; rw [HP2.out]; simp, HB.out⟩
  ·have he1 := Bt hz
   have hee : R.data.toList.isEmpty = true := by rw [<- Lib.toList_data]; exact he1
   have HP1 := hid (show Cr [45, 45, 45] s.data.toList = true by rw [HR.out, hee]; rfl)
   clear hee HR
   go_wp2
   go_ret
   exact ⟨by unfold Er; rw [HP1.out]; rfl, HB.out⟩
def VP : Int -> Value := fun e => if e = 80 then .iface 130 (.agg #[]) else if e = 81 then .iface 131 (.agg #[]) else .nilIface
theorem Nc (s : ByteArray) (w : World) (hs : s.size <= 1000000) :
  Calls Tryz.prog 29 #[.agg #[.string s]] w fun e w' => e = .returned (VP (Bj s.data.toList)) /\ Below w.heap.size w w' := by
 have b0 := Boxed.new w 79 (.string s)
 have hP := fun wx => ID s wx hs
 have hM := fun wx => Op s wx hs
 have HB := hid (show Below w.heap.size w (w.alloc (.cells #[.string s] 79)) from (Bq _ w).alloc Nr _)
 have c0 := b0.cell
 cases hp : BL s.data.toList with
 | false =>
  rw [hp] at hP
  have HT := hid (show Bj s.data.toList = 80 by unfold Bj; rw [hp]; rfl)
  clear hp hM b0
  go_enter Tryz.func29, Tryz.ntmps29
  go_wp2_with fail
  refine (hP _).mono ?_
  rintro e w1 ⟨rfl, hb1⟩
  have HB1 := hid (HB.out.trans (hb1.mono HB.out.size))
  clear hP hb1 c0
  go_wp2
  go_ret
  exact ⟨by rw [HT.out]; rfl, HB1.out⟩
 | true =>
  rw [hp] at hP
  cases hm : Er s.data.toList with
  | true =>
   rw [hm] at hM
   have HT := hid (show Bj s.data.toList = 81 by unfold Bj; rw [hp, hm]; rfl)
   clear hp hm
   go_enter Tryz.func29, Tryz.ntmps29
   go_wp2_with fail
   refine (hP _).mono ?_
   rintro e w1 ⟨rfl, hb1⟩
   have HB1 := hid (HB.out.trans (hb1.mono HB.out.size))
   have c1 := (Ac b0 hb1).cell
   clear hP hb1 c0 b0
   go_wp2_with fail
   refine (hM _).mono ?_
   rintro e w2 ⟨rfl, hb2⟩
   have HB2 := hid (HB1.out.trans (hb2.mono HB1.out.size))
   clear hM hb2 c1
   go_wp2
   go_ret
   exact ⟨by rw [HT.out]; rfl, HB2.out⟩
  | false =>
   rw [hm] at hM
   have HT := hid (show Bj s.data.toList = 0 by unfold Bj; rw [hp, hm]; rfl)
   clear hp hm
   go_enter Tryz.func29, Tryz.ntmps29
   go_wp2_with fail
   refine (hP _).mono ?_
   rintro e w1 ⟨rfl, hb1⟩
   have HB1 := hid (HB.out.trans (hb1.mono HB.out.size))
   have c1 := (Ac b0 hb1).cell
   clear hP hb1 c0 b0
   go_wp2_with fail
   refine (hM _).mono ?_
   rintro e w2 ⟨rfl, hb2⟩
   have HB2 := hid (HB1.out.trans (hb2.mono HB1.out.size))
   clear hM hb2 c1
   go_wp2
   go_ret
   exact ⟨by rw [HT.out]; rfl, HB2.out⟩
end
section
set_option maxRecDepth 100000
structure AV where
 kind : Int
 str : List UInt8
 at_ : Int
deriving DecidableEq
def AO (w : World) (v : Value) (ts : List AV) : Prop :=
 ∃ (A : Option Addr) (cap : Nat), v = .slice A ts.length cap /\ ∀ k, k < ts.length -> ∃ (b o : Nat), A = some ⟨b, o, none⟩ /\ b < w.heap.size ∧
  w.cell? ⟨b, o + k * 3, none⟩ = some (.int .i64 (ts.getD k ⟨0, [], 0⟩).kind) /\ w.cell? ⟨b, o + k * 3 + 1, none⟩ = some (.string ⟨(ts.getD k ⟨0, [], 0⟩).str.toArray⟩) /\ w.cell? ⟨b, o + k * 3 + 2, none⟩ = some (.int .i64 (ts.getD k ⟨0, [], 0⟩).at_)
theorem AO.nil (w : World) : AO w (.slice none 0 0) [] := ⟨none, 0, rfl, fun k h => by simp at h⟩
theorem AO.below {w w' : World} {v : Value} {ts : List AV} (h : AO w v ts) (hb : Below w.heap.size w w') : AO w' v ts := by
 obtain ⟨A, cap, hv, hc⟩ := h
 refine ⟨A, cap, hv, fun k hk => ?_⟩
 obtain ⟨b, o, ha, hlt, h0, h1, h2⟩ := hc k hk
 exact ⟨b, o, ha, Nat.lt_of_lt_of_le hlt hb.size, (hb.cell (p := ⟨b, o + k * 3, none⟩) hlt).trans h0, (hb.cell (p := ⟨b, o + k * 3 + 1, none⟩) hlt).trans h1, (hb.cell (p := ⟨b, o + k * 3 + 2, none⟩) hlt).trans h2⟩
theorem Te (x y : AV) : ((x.kind : Int) == (y.kind : Int) && ((⟨x.str.toArray⟩ : ByteArray).toList == (⟨y.str.toArray⟩ : ByteArray).toList && (x.at_ : Int) == (y.at_ : Int))) = decide (x = y) := by
 rw [Lib.toList_data, Lib.toList_data, Bool.eq_iff_iff]
 obtain ⟨k1, s1, p1⟩ := x
 obtain ⟨k2, s2, p2⟩ := y
 simp only [Bool.and_eq_true, beq_iff_eq, decide_eq_true_eq, AV.mk.injEq, BM]
theorem Rc {xs ys : List AV} {k : Nat} (hx : k < xs.length) (hy : k < ys.length) (h : xs.take k = ys.take k) :
  (xs.getD k ⟨0, [], 0⟩ = ys.getD k ⟨0, [], 0⟩ -> xs.take (k + 1) = ys.take (k + 1)) /\ (¬ xs.getD k ⟨0, [], 0⟩ = ys.getD k ⟨0, [], 0⟩ -> ¬ xs = ys) := by
 refine ⟨fun e => ?_, fun e e2 => e (by rw [e2])⟩
 rw [List.take_succ_eq_append_getElem hx, List.take_succ_eq_append_getElem hy, h]
 simp only [List.getD, List.getElem?_eq_getElem hx, List.getElem?_eq_getElem hy, Option.getD_some] at e
 rw [e]
theorem L9 (u v : Value) (xs ys : List AV) (w : World) (hx : AO w u xs) (hy : AO w v ys) (hl : xs.length <= 1000000) (hm : ys.length <= 1000000) :
  Calls Tryz.prog 167 #[u, v] w fun e w' => e = .returned (.bool (decide (xs = ys))) /\ Below w.heap.size w w' := by
 obtain ⟨A, ca, rfl, hA⟩ := hx
 obtain ⟨B, cb, rfl, hB⟩ := hy
 by_cases hne : xs.length = ys.length
 ·obtain ⟨n, hn⟩ : ∃ n, xs.length = n := ⟨_, rfl⟩
  rw [hn] at hne hA hl |-
  rw [<- hne] at hB hm |-
  have HN := hid (Ai hn hne)
  clear hn hne
  go_enter Tryz.func167, Tryz.ntmps167
  go_wp2
  go_loopw [13] (fun i wr => (∃ q, wr = w.drewN q) /\ ∃ k : Nat, k <= n /\ i = .int .i64 k /\ Hid (xs.take k = ys.take k)) (fun i _ => n - (intOf i).toNat)
  case atStart => exact ⟨⟨0, rfl⟩, 0, by omega, rfl, hid rfl⟩
  case round =>
   obtain ⟨⟨q0, rfl⟩, k, hk, rfl, HI⟩ := hrel
   by_cases hlt : k < n
   ·obtain ⟨a, o, rfl, ha, a0, a1, a2⟩ := hA k hlt
    obtain ⟨b, o2, rfl, hb, b0, b1, b2⟩ := hB k hlt
    obtain ⟨⟨k1, s1, p1⟩, hx⟩ : ∃ x, xs.getD k ⟨0, [], 0⟩ = x := ⟨_, rfl⟩
    obtain ⟨⟨k2, s2, p2⟩, hy⟩ : ∃ x, ys.getD k ⟨0, [], 0⟩ = x := ⟨_, rfl⟩
    rw [hx] at a0 a1 a2
    rw [hy] at b0 b1 b2
    have HX := hid (Ai hx hy)
    clear hx hy
    clear hA hB
    have hki : (k : Int) < (n : Int) := by omega
    go_wp2
    obtain ⟨bb, hbb⟩ : ∃ bb, ((k1 : Int) == (k2 : Int) && ((⟨s1.toArray⟩ : ByteArray).toList == (⟨s2.toArray⟩ : ByteArray).toList && (p1 : Int) == (p2 : Int))) = bb := ⟨_, rfl⟩
    have hE := fun wx => T5 k1 p1 k2 p2 ⟨s1.toArray⟩ ⟨s2.toArray⟩ wx
    rw [hbb] at hE
    have HB := hid (show decide ((⟨k1, s1, p1⟩ : AV) = ⟨k2, s2, p2⟩) = bb from (Te ⟨k1, s1, p1⟩ ⟨k2, s2, p2⟩).symm.trans hbb)
    clear hbb
    have HT := hid (Rc (xs := xs) (ys := ys) (k := k) (by have := HN.out; omega) (by have := HN.out; omega) HI.out)
    go_quiet (fail)
    cases bb with
    | true =>
     have HI' := hid (HT.out.1 (by rw [HX.out.1, HX.out.2]; exact of_decide_eq_true HB.out))
     go_wp2
     go_roundw
     case rel => exact ⟨⟨_, rfl⟩, k + 1, by omega, by go_num, HI'⟩
     case measure => simp [intOf]; omega
    | false =>
     have HF := hid (HT.out.2 (by rw [HX.out.1, HX.out.2]; exact of_decide_eq_false HB.out))
     go_wp2
     go_ret
     exact ⟨by rw [decide_eq_false HF.out]; rfl, by first | exact Ae (Ae (Bq _ _)) | exact Ae (Bq _ _) | exact Bq _ _⟩
   ·have HF := hid (show xs = ys by
     have h := HI.out
     rwa [List.take_of_length_le (by have := HN.out; omega), List.take_of_length_le (by have := HN.out; omega)] at h)
    have hki : ¬ (k : Int) < (n : Int) := by omega
    go_wp2
    go_ret
    exact ⟨by rw [decide_eq_true HF.out]; rfl, by first | exact Ae (Ae (Bq _ _)) | exact Ae (Bq _ _) | exact Bq _ _⟩
 ·have HF := hid (show ¬ xs = ys from fun h => hne (by rw [h]))
  have hne' : ((xs.length : Int) == (ys.length : Int)) = false := by rw [beq_eq_false_iff_ne]; omega
  go_enter Tryz.func167, Tryz.ntmps167
  go_wp2
  go_ret
  exact ⟨by rw [decide_eq_false HF.out]; rfl, Bq _ _⟩
theorem Ji (u v : Value) (xs ys : List AV) (w : World) (hx : AO w u xs) (hy : AO w v ys) (hl : xs.length <= 1000000) (hm : ys.length <= 1000000) :
  Calls Tryz.prog 138 #[u, v] w fun e w' => e = .returned (.bool (decide (xs = ys))) /\ Below w.heap.size w w' := by
 have hE := L9 u v xs ys w hx hy hl hm
 clear hx hy
 go_enter Tryz.func138, Tryz.ntmps138
 go_wp2_with fail
 refine hE.mono ?_
 rintro e w1 ⟨rfl, hb1⟩
 clear hE
 go_wp2
 go_ret
 exact ⟨rfl, hb1⟩
end
end Go.Proofs.YtaogfdffgdglkaaGreatDoor
