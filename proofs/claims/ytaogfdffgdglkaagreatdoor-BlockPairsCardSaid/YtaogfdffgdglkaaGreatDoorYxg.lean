/- What is proved: a part of the walk of the program and of its plain laws; no condition beside those that each theorem names. -/
import Derived.Test.YtaogfdffgdglkaaGreatDoorYa
import Derived.Test.YtaogfdffgdglkaaGreatDoorYp
import Derived.Test.YtaogfdffgdglkaaGreatDoorYxf
import Derived.Stop.RegionWithIn
namespace Go.Proofs.YtaogfdffgdglkaaGreatDoor
open Go Go.RowKit Go.Lib
set_option linter.unusedSimpArgs false
set_option linter.unusedVariables false
section
set_option maxRecDepth 100000
set_option maxHeartbeats 4000000
theorem QL (s : ByteArray) : (⟨(Lib.trimLeftB s.data.toList 32).toArray⟩ : ByteArray).size <= s.size := by
 rw [CB, Lib.size_eq]
 exact Qw _
theorem Rx (s : ByteArray) (no : Int) (w : World) (hs : s.size <= 1000000) :
  Calls Tryz.prog 30 #[.agg #[.string s, .int .i64 no]] w fun e w' =>
   e = .returned (.tuple #[.agg #[.int .i64 no, .int .i64 ((s.size : Int) - (Dx s.data.toList).length), .string ⟨(FK (Dx s.data.toList)).toArray⟩], .bool (GR s.data.toList)]) /\ Below w.heap.size w w' := by
 have hX := Wn w (.cells #[.string s, .int .i64 no] 86)
 have hbA : Below w.heap.size w (w.alloc (.cells #[.string s, .int .i64 no] 86)) := (Bq _ w).alloc Nr _
 have hbB := (Bq _ (w.alloc (.cells #[.string s, .int .i64 no] 86))).alloc Nr (.cells #[.int .i64 0, .int .i64 0, .string ⟨#[]⟩] 40)
 have hY := Wn (w.alloc (.cells #[.string s, .int .i64 no] 86)) (.cells #[.int .i64 0, .int .i64 0, .string ⟨#[]⟩] 40)
 rw [World.size_alloc] at hY
 have hTL := fun wx => Tryz.strings_TrimLeft_one s 32 (by decide) wx
 obtain ⟨L, hL⟩ : ∃ L : ByteArray, (⟨(Lib.trimLeftB s.data.toList 32).toArray⟩ : ByteArray) = L := ⟨_, rfl⟩
 have hLs : L.size <= s.size := by rw [<- hL]; exact QL s
 have HLd := hid (show L.data.toList = Dx s.data.toList by rw [<- hL]; rfl)
 rw [hL] at hTL
 have hTR := fun wx => Tryz.strings_TrimRight_one L 32 (by decide) wx (by omega)
 obtain ⟨T, hT⟩ : ∃ T : ByteArray, (⟨(Lib.trimRightB L.data.toList 32).toArray⟩ : ByteArray) = T := ⟨_, rfl⟩
 have HTd := hid (show (⟨(FK (Dx s.data.toList)).toArray⟩ : ByteArray) = T by rw [<- hT, HLd.out]; rfl)
 rw [hT] at hTR
 have hX1 := Aa hX hbB
 obtain ⟨W1, hW1⟩ : ∃ z, (w.alloc (.cells #[.string s, .int .i64 no] 86)).alloc (.cells #[.int .i64 0, .int .i64 0, .string ⟨#[]⟩] 40) = z := ⟨_, rfl⟩
 have hB1 : Below w.heap.size w W1 := by rw [<- hW1]; exact hbA.trans (hbB.mono (by simp))
 rw [hW1] at hX1 hY
 obtain ⟨n, hn⟩ : ∃ n, s.size = n := ⟨_, rfl⟩
 obtain ⟨m, hm⟩ : ∃ m, L.size = m := ⟨_, rfl⟩
 have HN := hid (Ai hn (Ai hm (show (Dx s.data.toList).length = m by rw [<- HLd.out, <- Lib.size_eq, hm])))
 have hmn : m <= n := by omega
 have hn6 : n <= 1000000 := by omega
 have hXY := hid (Ai hX1 (Ai hY hB1))
 have hsub : IntKind.i64.wrap ((n : Int) - (m : Int)) = (n : Int) - (m : Int) := by go_arith
 have hsz1 : W1.heap.size = w.heap.size + 1 + 1 := by rw [<- hW1]; simp
 clear hX hbA hbB hL hT hB1 hX1 hY hLs hs
 obtain ⟨x0, x1, _, _⟩ := Rb hXY.out.1
 have HS1 := hid hsz1
 clear hsz1
 go_enter Tryz.func30, Tryz.ntmps30
 go_wp2_with fail
 refine (hTL _).mono ?_
 rintro e w1 ⟨rfl, hw1⟩
 subst w1
 have HSS := hid (fun (X : World) (hT : Below W1.heap.size W1 X) => Ai (Ab x0 hT) (Ab x1 hT))
 have hd4 : Below W1.heap.size W1 W1.drew := (Bq _ _).drew
 go_wp2
 refine wp_region_noPanic ?_
 refine wp_region_held_drew (S := (fun w' => w'.cell? ⟨w.heap.size, 0, none⟩ = some (.string s) /\ w'.cell? ⟨w.heap.size, 1, none⟩ = some (.int .i64 no))) (by kernel_rfl) (HSS.out _ hd4) (fun hHeld => ?_)
 refine wI 0 hHeld ?_; try simp only [gS]
 refine wI 1 hHeld ?_; try simp only [gS]
 refine wI 2 hHeld ?_; try simp only [gS]
 refine wI 3 hHeld ?_; try simp only [gS]
 refine wI 4 hHeld ?_; try simp only [gS]
 refine wI 5 hHeld ?_; try simp only [gS]
 refine wI 6 hHeld ?_; try simp only [gS]
 refine wI 7 hHeld ?_; try simp only [gS]
 refine wI 8 hHeld ?_; try simp only [gS]
 refine wI 9 hHeld ?_; try simp only [gS]
 have hNN : (W1.alloc (.cells #[.int .i64 0, .int .i64 0, .string ⟨#[]⟩] 40)).drew.heap[W1.heap.size]? = some (.cells #[.int .i64 0, .int .i64 0, .string ⟨#[]⟩] 40) := Wn W1 _
 refine wpAnyH_ready (rs := [10, 12]) (by kernel_rfl) (by simp) ?_
 refine AllReadyH.cons rfl (fun K hK => ?goA) (AllReadyH.cons rfl (fun K hK => ?goB) AllReadyH.nil)
 case' goA =>
  go_simp
  refine (hTR _).mono ?_
  rintro e w5 ⟨rfl, hw5⟩
  subst w5
  refine hK.out _ _ (HSS.out _ hd4) (fun hHeld2 => ?_)
  clear hK K hHeld
  have hHeld := hHeld2; clear hHeld2
  try simp only [gS]
  refine wI 11 hHeld ?_; try simp only [gS]
  refine wB 12 rfl (fun K hK => ?_)
  go_simp
  refine hK.out _ _ (HSS.out _ (((Bq _ W1).alloc Nr _).drew)) (fun hHeld2 => ?_)
  clear hK K hHeld
  have hHeld := hHeld2; clear hHeld2
  try simp only [gS]
  refine wB 13 rfl (fun K hK => ?_)
  refine Bk (by rfl) _ _ _ (by rfl) W1.heap.size #[.int .i64 no, .int .i64 ((n : Int) - (m : Int)), .string T] (by rfl) (by rfl) _ _ hNN (by kernel_rfl) (by rfl) (by simp [Value.oneCell']) ?_
  refine hK.out _ _ (HSS.out _ (Cu (((Bq _ W1).alloc Nr _).drew) Nr _)) (fun hHeld2 => ?_)
  clear hK K hHeld
  have hHeld := hHeld2; clear hHeld2
  try simp only [gS]
  refine wpAnyH_done (by kernel_rfl) ?_ _
  refine NoPanic.normal ?_
 case' goB =>
  go_simp
  refine hK.out _ _ (HSS.out _ (((Bq _ W1).alloc Nr _).drew)) (fun hHeld2 => ?_)
  clear hK K hHeld
  have hHeld := hHeld2; clear hHeld2
  try simp only [gS]
  refine wB 10 rfl (fun K hK => ?_)
  go_simp
  refine (hTR _).mono ?_
  rintro e w5 ⟨rfl, hw5⟩
  subst w5
  refine hK.out _ _ (HSS.out _ (((Bq _ W1).alloc Nr _).drew)) (fun hHeld2 => ?_)
  clear hK K hHeld
  have hHeld := hHeld2; clear hHeld2
  try simp only [gS]
  refine wI 11 hHeld ?_; try simp only [gS]
  refine wB 13 rfl (fun K hK => ?_)
  refine Bk (by rfl) _ _ _ (by rfl) W1.heap.size #[.int .i64 no, .int .i64 ((n : Int) - (m : Int)), .string T] (by rfl) (by rfl) _ _ hNN (by kernel_rfl) (by rfl) (by simp [Value.oneCell']) ?_
  refine hK.out _ _ (HSS.out _ (Cu (((Bq _ W1).alloc Nr _).drew) Nr _)) (fun hHeld2 => ?_)
  clear hK K hHeld
  have hHeld := hHeld2; clear hHeld2
  try simp only [gS]
  refine wpAnyH_done (by kernel_rfl) ?_ _
  refine NoPanic.normal ?_
 all_goals
  have hbW : Below W1.heap.size W1 ((W1.alloc (.cells #[.int .i64 0, .int .i64 0, .string ⟨#[]⟩] 40)).drew.setRow W1.heap.size #[.int .i64 no, .int .i64 ((n : Int) - (m : Int)), .string T]) := Cu (((Bq _ W1).alloc Nr _).drew) Nr _
  have hL6 := setRow_heap _ _ _ #[.int .i64 no, .int .i64 ((n : Int) - (m : Int)), .string T] _ _ hNN
  have hR6 := Aa hXY.out.2.1 hbW
  have hB6 := hXY.out.2.2.trans (hbW.mono hXY.out.2.2.size)
  obtain ⟨w6, hw6⟩ : ∃ z, (W1.alloc (.cells #[.int .i64 0, .int .i64 0, .string ⟨#[]⟩] 40)).drew.setRow W1.heap.size #[.int .i64 no, .int .i64 ((n : Int) - (m : Int)), .string T] = z := ⟨_, rfl⟩
  rw [hw6] at hL6 hR6 hB6 |-
  have HB6 := hid hB6
  have HR6 := hid hR6
  obtain ⟨y0, y1, y2, _⟩ := Az hL6
  have hNl : w.heap.size + 1 ≠ W1.heap.size := by have := HS1.out; omega
  clear hHeld hTR hNN hbW hw6 hW1 hL6 hR6 hB6 x0 x1 hd4 HSS hXY hTL
  have hN3 := hid (fun (X : World) (hT : Af (fun k => k = w.heap.size + 1) w.heap.size w6 X) => Ai (Af.cell hT y0 (Ne.symm hNl)) (Ai (Af.cell hT y1 (Ne.symm hNl)) (Af.cell hT y2 (Ne.symm hNl))))
  have hd6 : Af (fun k => k = w.heap.size + 1) w.heap.size w6 w6.drew := Af.of_below (Bq _ _).drew
  have hR6d : w6.drew.heap[w.heap.size + 1]? = some (.cells #[.int .i64 0, .int .i64 0, .string ⟨#[]⟩] 40) := HR6.out
  by_cases hz : 0 < m
  ·have hz1 : 0 < L.size := by omega
   have he1 := AX hz1
   have hg := Cw L 0 hz1
   obtain ⟨c, hc⟩ : ∃ c, L[0] = c := ⟨_, rfl⟩
   rw [hc] at hg
   have hee : L.data.toList.isEmpty = false := by rw [<- Lib.toList_data]; exact he1
   have HF := hid (show GR s.data.toList = (c != 35) by unfold GR; rw [<- HLd.out, hee, hg]; rfl)
   clear hg hee
   obtain ⟨bq, hbq⟩ : ∃ z, ((c.toNat : Int) != 35) = z := ⟨_, rfl⟩
   have HQ := hid (show bq = (c != 35) by rw [<- hbq, Bool.eq_iff_iff]; simp only [bne_iff_ne, ne_eq]; exact not_congr ⟨fun e => UInt8.toNat_inj.1 (by show c.toNat = 35; omega), fun e => by rw [e]; rfl⟩)
   go_wp2
   refine wp_region_noPanic ?_
   refine wp_region_held_drew (S := (fun w' => w'.cell? ⟨W1.heap.size, 0, none⟩ = some (.int .i64 no) /\ w'.cell? ⟨W1.heap.size, 1, none⟩ = some (.int .i64 ((n : Int) - (m : Int))) /\ w'.cell? ⟨W1.heap.size, 2, none⟩ = some (.string T))) (by kernel_rfl) (hN3.out _ hd6) (fun hHeld => ?_)
   refine wI 0 hHeld ?_; try simp only [gS]
   refine wI 1 hHeld ?_; try simp only [gS]
   refine wI 2 hHeld ?_; try simp only [gS]
   refine wI 3 hHeld ?_; try simp only [gS]
   refine wI 4 hHeld ?_; try simp only [gS]
   refine wI 5 hHeld ?_; try simp only [gS]
   refine wI 6 hHeld ?_; try simp only [gS]
   refine wI 7 hHeld ?_; try simp only [gS]
   refine wB 8 rfl (fun K hK => ?_)
   refine Bk (by rfl) _ _ _ (by rfl) (w.heap.size + 1) #[.int .i64 no, .int .i64 ((n : Int) - (m : Int)), .string T] (by rfl) (by rfl) _ _ hR6d (by kernel_rfl) (by rfl) (by simp [Value.oneCell']) ?_
   refine hK.out _ _ (hN3.out _ (hd6.trans (Af.setRow _ _ _ rfl))) (fun hHeld2 => ?_)
   clear hK K hHeld
   have hHeld := hHeld2; clear hHeld2
   try simp only [gS]
   refine wI 9 hHeld ?_; try simp only [gS]
   refine wpAnyH_done (by kernel_rfl) ?_ _
   refine NoPanic.normal ?_
   have hZ := setRow_heap _ _ _ #[.int .i64 no, .int .i64 ((n : Int) - (m : Int)), .string T] _ _ hR6d
   obtain ⟨q0, q1, q2, _⟩ := Az hZ
   try go_wp2
   refine bodyPost_ret (v := .tuple #[.agg #[.int .i64 no, .int .i64 ((n : Int) - (m : Int)), .string T], .bool bq]) (by simp [results, Tryz.results30, go_sem, q0, q1, q2]) rfl ?_
   refine ⟨by rw [HQ.out, HF.out, HN.out.1, HN.out.2.2, HTd.out], ?_⟩
   exact Cu ((HB6.out).drew) (by omega) _
  ·have hz1 : ¬ 0 < L.size := by omega
   have he1 := Bt hz1
   have hee : L.data.toList.isEmpty = true := by rw [<- Lib.toList_data]; exact he1
   have HF := hid (show GR s.data.toList = false by unfold GR; rw [<- HLd.out, hee]; rfl)
   clear hee
   go_wp2
   refine wp_region_noPanic ?_
   refine wp_region_held_drew (S := (fun w' => w'.cell? ⟨W1.heap.size, 0, none⟩ = some (.int .i64 no) /\ w'.cell? ⟨W1.heap.size, 1, none⟩ = some (.int .i64 ((n : Int) - (m : Int))) /\ w'.cell? ⟨W1.heap.size, 2, none⟩ = some (.string T))) (by kernel_rfl) (hN3.out _ hd6) (fun hHeld => ?_)
   refine wI 0 hHeld ?_; try simp only [gS]
   refine wI 1 hHeld ?_; try simp only [gS]
   refine wI 2 hHeld ?_; try simp only [gS]
   refine wI 3 hHeld ?_; try simp only [gS]
   refine wU 4 rfl (by rfl) hHeld ?_
   try simp only [gS]
   refine wU 5 rfl (by rfl) hHeld ?_
   try simp only [gS]
   refine wU 6 rfl (by rfl) hHeld ?_
   try simp only [gS]
   refine wI 7 hHeld ?_; try simp only [gS]
   refine wB 8 rfl (fun K hK => ?_)
   refine Bk (by rfl) _ _ _ (by rfl) (w.heap.size + 1) #[.int .i64 no, .int .i64 ((n : Int) - (m : Int)), .string T] (by rfl) (by rfl) _ _ hR6d (by kernel_rfl) (by rfl) (by simp [Value.oneCell']) ?_
   refine hK.out _ _ (hN3.out _ (hd6.trans (Af.setRow _ _ _ rfl))) (fun hHeld2 => ?_)
   clear hK K hHeld
   have hHeld := hHeld2; clear hHeld2
   try simp only [gS]
   refine wI 9 hHeld ?_; try simp only [gS]
   refine wpAnyH_done (by kernel_rfl) ?_ _
   refine NoPanic.normal ?_
   have hZ := setRow_heap _ _ _ #[.int .i64 no, .int .i64 ((n : Int) - (m : Int)), .string T] _ _ hR6d
   obtain ⟨q0, q1, q2, _⟩ := Az hZ
   try go_wp2
   refine bodyPost_ret (v := .tuple #[.agg #[.int .i64 no, .int .i64 ((n : Int) - (m : Int)), .string T], .bool false]) (by simp [results, Tryz.results30, go_sem, q0, q1, q2]) rfl ?_
   refine ⟨by rw [HF.out, HN.out.1, HN.out.2.2, HTd.out], ?_⟩
   exact Cu ((HB6.out).drew) (by omega) _
end
section
set_option maxRecDepth 100000
set_option maxHeartbeats 4000000
attribute [local go_sem] Oper.semAt_some CA B0
def Ot (w : World) : Prop := ∃ m, w.cell? ⟨3, 0, none⟩ = some (.int .i64 m)
theorem Ot.below {w w' : World} (h : Ot w) (hb : Below w.heap.size w w') : Ot w' := by
 obtain ⟨m, hm⟩ := h
 exact ⟨m, Ab hm hb⟩
def Dt : Nat -> List (List UInt8) -> List (Nat × List UInt8)
 | _, [] => []
 | k, r :: rs => (k, r) :: Dt (k + 1) rs
def S0 (x : Nat × List UInt8) : Array Value := #[.int .i64 x.1, .agg #[.string ⟨x.2.toArray⟩]]
def UC (W : World) (B : Nat) : Nat := match W.cell? ⟨B, 0, none⟩ with | some (.string s) => s.size | _ => 0
theorem Pg {W : World} {B : Nat} {s : ByteArray} (h : Boxed W B 9 (.string s)) : UC W B = s.size := by unfold UC; rw [h.cell]
theorem RD (s : ByteArray) (w : World) :
  Calls Tryz.prog 28 #[.string s] w fun e w' => e = .returned (.func (.func 56) #[] #[.pointer (some ⟨w.heap.size, 0, none⟩)]) /\ w' = w.alloc (.cells #[.string s] 9) := by
 go_enter Tryz.func28, Tryz.ntmps28
 go_wp2
 go_ret
 exact ⟨rfl, rfl⟩
theorem PF (s : ByteArray) (Bs n₀ : Nat) (w0 : World) (hT : Ot w0) (hN : w0.heap.size <= n₀) (hBs : w0.heap.size <= Bs) (hs : s.size <= 1000000) :
  TK Tryz.prog 56 #[.pointer (some ⟨Bs, 0, none⟩)] S0 (fun k => k = Bs) n₀ (Dt 1 (CS s.data.toList)) (fun W => Boxed W Bs 9 (.string s) /\ Below w0.heap.size w0 W) := by
 intro l J Jx W ⟨hbx, hbl⟩ hJ hJx hY h0
 refine callsIn_of_wp Tryz.func56 rfl trivial ?_ rfl
 simp only [Tryz.ntmps56, List.size_toArray, List.length_cons, List.length_nil, Nat.reduceAdd, Nat.reduceSub, Array.replicate_succ, Array.replicate_zero, List.push_toArray, List.append_toArray, List.nil_append, List.cons_append]
 gi_wp2
 refine De ?_
 gi_wp2
 refine Db ?_
 gi_wp2
 gi_loopw [3] (fun u wr => ∃ (k : Nat) (R : ByteArray) (pre : List (Nat × List UInt8)), u = .int .i64 k /\ Boxed wr Bs 9 (.string R) /\ Below w0.heap.size w0 wr /\ W.heap.size <= wr.heap.size /\ J pre wr /\ k + R.size <= s.size + 1 /\ Hid (Dt 1 (CS s.data.toList) = pre ++ Dt k (CS R.data.toList))) (fun _ wr => UC wr Bs)
 case atStart => exact ⟨1, s, [], rfl, hbx, hbl, Nat.le_refl _, h0, by omega, hid rfl⟩
 case round =>
  obtain ⟨k, R, pre, rfl, hc1, hb1, hz1, hJ1, hk1, HP⟩ := hrel
  clear hbx hbl h0
  have k0 := hc1.cell
  have HM := hid (Pg hc1)
  have hRz : R.size <= 1000001 := by omega
  by_cases hz : 0 < R.size
  ·have he := AX hz
   have hne : R.data.toList ≠ [] := fun e => by rw [Lib.size_eq, e] at hz; exact absurd hz (by simp)
   have hrows := Ow hne
   obtain ⟨mm, hmm⟩ := hT.below hb1
   have hcut := Tryz.strings_Cut R ⟨#[10]⟩ mm wr (by omega) hmm
   obtain ⟨c1, c2⟩ := Rl R.data.toList
   rw [show (⟨#[10]⟩ : ByteArray).data.toList = [10] from rfl, c1, c2] at hcut
   obtain ⟨b3, hb3⟩ : ∃ b3, (Lib.cut R.data.toList [10]).2.2 = b3 := ⟨_, rfl⟩
   rw [hb3] at hcut
   obtain ⟨row, hrow⟩ : ∃ z, GF R.data.toList = z := ⟨_, rfl⟩
   obtain ⟨S2, hS2⟩ : ∃ z : ByteArray, (⟨(Dd R.data.toList).toArray⟩ : ByteArray) = z := ⟨_, rfl⟩
   have hlt : S2.size < R.size := by
    have := FG hne
    rw [<- hS2, CB, Lib.size_eq]
    exact this
   have hsd : Dd R.data.toList = S2.data.toList := by rw [<- hS2]
   have HP2 := hid (show Dt 1 (CS s.data.toList) = (pre ++ [(k, row)]) ++ Dt (k + 1) (CS S2.data.toList) by rw [HP.out, hrows, hrow, hsd, List.append_assoc]; rfl)
   rw [hrow, hS2] at hcut
   clear hmm c1 c2 hb3 hrow hS2 hsd hrows HP hne
   gi_wp2_with fail
   refine (callsIn_wide.2 hcut).mono ?_
   rintro e w2 ⟨rfl, nd, rfl⟩
   clear hcut
   have hJ2 : J pre (wr.drewN nd) := hJ _ _ _ hJ1 (Af.of_below (Ae (Bq _ _)))
   have hpre : pre ++ [(k, row)] <+: Dt 1 (CS s.data.toList) := ⟨_, HP2.out.symm⟩
   obtain ⟨fn, tmps, assign, body, hy, hR⟩ := hY pre (k, row) _ hJ2 hpre
   dsimp only [S0] at hy
   have HPR := hid hpre
   have hc2 : Boxed (wr.drewN nd) Bs 9 (.string R) := Ac hc1 (Ae (Bq _ _))
   have hb2 : Below w0.heap.size w0 (wr.drewN nd) := Ae hb1
   clear hpre k0 hJ1 hc1 hb1
   have hkw : IntKind.i64.wrap ((k : Int) + 1) = (k : Int) + 1 := by go_arith
   gi_wp2
   refine hR.mono ?_
   rintro e W3 (⟨rfl, hJ4, hk4⟩ | ⟨rfl, hJ4, hk4⟩)
   ·have hc4 : Boxed W3 Bs 9 (.string R) := Am hc2 hk4 (.inr rfl)
    have hb5 : Below w0.heap.size w0 W3 := hk4.below hb2 hN Nr
    have hz4 : W.heap.size <= W3.heap.size := Nat.le_trans hz1 (Nat.le_trans (Below.size (Ae (Bq wr.heap.size wr))) hk4.size)
    have hc5 : Boxed (W3.setCell ⟨Bs, 0, none⟩ (.string S2)) Bs 9 (.string S2) := hc4.set _
    have hb6 : Below w0.heap.size w0 (W3.setCell ⟨Bs, 0, none⟩ (.string S2)) := hb5.setCell (p := ⟨Bs, 0, none⟩) hBs _
    have hJ5 : J (pre ++ [(k, row)]) (W3.setCell ⟨Bs, 0, none⟩ (.string S2)) := hJ _ _ _ hJ4 (Af.setCell _ _ _ rfl)
    have hz5 : W.heap.size <= (W3.setCell ⟨Bs, 0, none⟩ (.string S2)).heap.size := by simp [World.setCell]; omega
    have HM2 := hid (Pg hc5)
    have k4 := hc4.cell
    have f4 := hc4.frozen
    clear hy hJ2 hc2 hb2 hk4 hc4 hb5 hJ4 hz4 hY hR
    gi_wp2
    go_roundw
    case rel => exact ⟨k + 1, S2, _, rfl, hc5, hb6, hz5, hJ5, by omega, HP2⟩
    case measure => rw [HM.out, HM2.out]; omega
   ·clear hy hJ2 hc2 hb2 hk4
    gi_wp2
    try simp only [Exit.noGoto_normal]
    go_end0
    exact ⟨⟨_, rfl⟩, .inr ⟨_, HPR.out, hJ4⟩⟩
  ·have he := Bt hz
   have hnil : R.data.toList = [] := List.eq_nil_of_length_eq_zero (by rw [<- Lib.size_eq]; omega)
   have HP2 := hid (show Dt 1 (CS s.data.toList) = pre by rw [HP.out, hnil, Qi]; simp [Dt])
   clear HP hnil
   gi_wp2
   try simp only [Exit.noGoto_normal]
   go_end0
   exact ⟨⟨_, rfl⟩, .inl (by rw [HP2.out]; exact hJ1)⟩
end
end Go.Proofs.YtaogfdffgdglkaaGreatDoor
