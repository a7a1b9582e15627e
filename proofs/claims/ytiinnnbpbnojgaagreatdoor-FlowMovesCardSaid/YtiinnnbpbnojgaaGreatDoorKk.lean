/- What is proved: package tok's named: the anchor or the alias at the place. -/
import Derived.Test.YtiinnnbpbnojgaaGreatDoorKj
import Derived.Test.YtiinnnbpbnojgaaGreatDoorMf
import Derived.RegionTactic
import Derived.ChangeAlike
namespace Go.Proofs.YtiinnnbpbnojgaaGreatDoor
open Go Go.RowKit Go.Lib
set_option linter.unusedSimpArgs false
set_option linter.unusedVariables false

theorem ba_list {s : ByteArray} {l : List UInt8} (h : s.data.toList = l) : s = ⟨l.toArray⟩ := by subst h; rfl
theorem name_size (s : ByteArray) (p : Nat) (hp : p < s.size) : (nameOf s.data.toList p).length ≤ s.size - (p + 1) := by
  have := name_le s.data.toList (p := p) (by rw [← Lib.size_eq]; exact hp)
  rw [← Lib.size_eq] at this
  omega
theorem rest_list (s : ByteArray) (p : Nat) : (s.extract p s.size).data.toList = s.data.toList.drop p := by
  rw [Lib.extract_data, List.take_of_length_le (by rw [List.length_drop, ← Lib.size_eq]; omega)]
theorem prefix_take (l : List UInt8) : l.take (l.takeWhile signB).length = l.takeWhile signB := (List.prefix_iff_eq_take.1 (List.takeWhile_prefix _)).symm
theorem name_str (s : ByteArray) (p : Nat) : (s.extract (p + 1) s.size).extract 0 (nameOf s.data.toList p).length = ⟨(nameOf s.data.toList p).toArray⟩ := by
  refine (ba_list ?_)
  rw [Lib.extract_data, rest_list, List.drop_zero, Nat.sub_zero]
  exact prefix_take _


set_option maxRecDepth 100000 in
set_option maxHeartbeats 4000000 in
theorem named_s (R : Nat) (s : ByteArray) (p d : Nat) (w : World) (hs : s.size ≤ 1000000) (hp : p < s.size) (hR : RA w R s p d) (hst : isB s.data.toList p [42] = true) (r : TR) (HR : Hid ((if nameB (nameOf s.data.toList p) && closedB s.data.toList (p + 1 + (nameOf s.data.toList p).length) d then .ok 4 (nameOf s.data.toList p) (p + 1 + (nameOf s.data.toList p).length) d else .bad 90) = r)) :
    Calls Tryz.prog 176 #[.pointer (some ⟨R, 0, none⟩)] w (PostT R s p r w) := by
  have hI := fun N wx hn hx => is_at N R s p d 0 p [42] 1 1 (0, 0) wx hn hs (by omega) (by omega) rfl (by omega) hx
  rw [hst] at hI
  clear hst
  have hlt := hR.lt
  have hns := name_size s p hp
  have hNS := name_str s p
  have hLs := trim_sign (s.extract (p + 1) s.size)
  rw [rest_list] at hLs
  rw [show (s.data.toList.drop (p + 1)).takeWhile signB = nameOf s.data.toList p from rfl] at hLs
  obtain ⟨nm, hnm⟩ : ∃ nm, nameOf s.data.toList p = nm := ⟨_, rfl⟩
  rw [hnm] at HR hns hNS hLs
  clear hnm
  obtain ⟨n, hn⟩ : ∃ n, nm.length = n := ⟨_, rfl⟩
  rw [hn] at HR hns hNS hLs
  obtain ⟨P2, hP2⟩ : ∃ P2, p + 1 + n = P2 := ⟨_, rfl⟩
  rw [hP2] at HR
  have hRz : (s.extract (p + 1) s.size).size = s.size - (p + 1) := by rw [ByteArray.size_extract]; omega
  have hp1 : ((p : Int) + 1).toNat = p + 1 := by omega
  have hT := fun wx => Tryz.strings_TrimLeftFunc_grows 215 #[] (enters_of Tryz.func215 (by kernel_rfl) rfl) signR (s.extract (p + 1) s.size) wx (isSign_grows wx)
  obtain ⟨LT, hLT⟩ : ∃ LT, trimLeftF signR (s.extract (p + 1) s.size) = LT := ⟨_, rfl⟩
  rw [hLT] at hT hLs
  clear hLT
  obtain ⟨RS, hRS⟩ : ∃ RS, s.extract (p + 1) s.size = RS := ⟨_, rfl⟩
  rw [hRS] at hT hLs hRz hNS
  have hsub : (RS.size : Int) - (LT.size : Int) = (n : Int) := by omega
  have hsubw : IntKind.i64.wrap ((RS.size : Int) - (LT.size : Int)) = (n : Int) := by rw [hsub]; exact IntWalk.i64_in _ (by omega)
  have hni : (n : Int) ≤ (RS.size : Int) := by omega
  have hRb : (RS.size : Int) ≤ 1000000 := by omega
  have hnb1 : (n : Int) ≤ 1000000 := by omega
  have hN := fun wx => isName_any ⟨nm.toArray⟩ wx (by rw [size_mk]; omega)
  rw [toList_mk] at hN
  have hC := fun wx hx => isClosed_any R s P2 d 0 P2 wx hs rfl (by omega) hx
  obtain ⟨nb, hnb⟩ : ∃ nb, nameB nm = nb := ⟨_, rfl⟩
  obtain ⟨cb, hcb⟩ : ∃ cb, closedB s.data.toList P2 d = cb := ⟨_, rfl⟩
  rw [hnb] at hN HR
  rw [hcb] at hC HR
  clear hnb hcb
  have hw2 : IntKind.i64.wrap (1 + (n : Int)) = 1 + (n : Int) := IntWalk.i64_in _ (by omega)
  have hw3 : IntKind.i64.wrap ((p : Int) + (1 + (n : Int))) = (P2 : Int) := by rw [show (p : Int) + (1 + (n : Int)) = (P2 : Int) by omega]; exact IntWalk.i64_in _ (by omega)
  have hw3' : (p : Int) + (1 + (n : Int)) = (P2 : Int) := by omega
  have hpi : (p : Int) < (s.size : Int) := by omega
  have hSZ : (⟨nm.toArray⟩ : ByteArray).size = n := by rw [size_mk]; exact hn
  have HALL := hid (And.intro hRS (And.intro hNS (And.intro hRz (And.intro hSZ (And.intro hw2 (And.intro hw3 hw3'))))))
  have hpb : (p : Int) ≤ 1000000 := by omega
  clear hRS hNS hRz hSZ hw2 hw3 hw3' hP2 hn hLs hns
  have hY := Sy.new hR (.int .i64 3) (.string ⟨#[]⟩) (.int .i64 p)
  obtain ⟨r0, r1, r2, f0, f1, f2⟩ := hR.cells
  go_enter Tryz.func176, Tryz.ntmps176
  go_wp2_with fail
  refine (hI _ _ (by simp) hY.sx.ra).mono ?_
  rintro e w1 ⟨rfl, hb1⟩
  replace hY := hY.below hb1
  clear hI hb1 r0 r1 r2 f0 f1 f2
  obtain ⟨r0, r1, r2, f0, f1, f2⟩ := hY.sx.ra.cells
  obtain ⟨t0, t1, t2, u0, u1, u2⟩ := hY.cells
  replace hY := hY.putK hlt (.int .i64 4)
  have hRS := HALL.out.1
  have hp1le : (p : Int) + 1 ≤ (s.size : Int) := by omega
  go_wp2
  go_quiet (fail)
  replace hY := hY.below (below_drewN (n := nq) (Below.refl _ _))
  clear r0 r1 r2 f0 f1 f2 t0 t1 t2 u0 u1 u2 hRS hp1 hp1le
  go_wp2_with fail
  refine (hT _).mono ?_
  rintro e w2 ⟨rfl, hb2⟩
  replace hY := hY.below hb2
  clear hb2 hT
  obtain ⟨r0, r1, r2, f0, f1, f2⟩ := hY.sx.ra.cells
  obtain ⟨t0, t1, t2, u0, u1, u2⟩ := hY.cells
  have hNS := HALL.out.2.1
  replace hY := hY.putS hlt (.string ⟨nm.toArray⟩)
  go_wp2
  clear r0 r1 r2 f0 f1 f2 t0 t1 t2 u0 u1 u2 hNS
  revert hY
  generalize w2.setCell ⟨w.heap.size + 1, 1, none⟩ (.string ⟨nm.toArray⟩) = w3
  intro hY
  obtain ⟨r0, r1, r2, f0, f1, f2⟩ := hY.sx.ra.cells
  obtain ⟨t0, t1, t2, u0, u1, u2⟩ := hY.cells
  have hSZ := HALL.out.2.2.2.1
  have hw2 := HALL.out.2.2.2.2.1
  have hw3 := HALL.out.2.2.2.2.2.1
  have hw3' := HALL.out.2.2.2.2.2.2
  go_region
  replace hY := (hY.set1 hlt P2).drew
  clear r0 r1 r2 f0 f1 f2 t0 t1 t2 u0 u1 u2 hSZ hw2 hw3 hw3' HALL hsub hsubw hni
  revert hY
  generalize (w3.setCell ⟨R, 1, none⟩ (.int .i64 P2)).drew = w4
  intro hY
  obtain ⟨t0, t1, t2, u0, u1, u2⟩ := hY.cells
  go_wp2_with fail
  refine (hN _).mono ?_
  rintro e w5 ⟨rfl, hb5⟩
  replace hY := hY.below hb5
  clear hN hb5 t0 t1 t2 u0 u1 u2
  cases nb with
  | false =>
    have HQ := hid (show r = .bad 90 by rw [← HR.out, Bool.false_and, if_neg (by decide)])
    obtain ⟨n0, n1, n2, g0, g1, g2⟩ := hY.sx.cells
    obtain ⟨t0, t1, t2, u0, u1, u2⟩ := hY.cells
    go_wp2
    obtain ⟨e0, e1, e2, e3, e4⟩ := hY.sx.fin hlt (.int .i64 0) (.string ⟨#[]⟩) (.int .i64 0)
    refine bodyPost_ret (v := .tuple #[tkV ⟨0, [], 0⟩, .iface 181 (.agg #[.int .i64 90])]) (by simp [results, Tryz.results176, go_sem, tkV, e0, e1, e2]) rfl (PostT.bad HQ.out rfl e4)
  | true =>
    go_wp2_with fail
    refine (hC _ hY.sx.ra).mono ?_
    rintro e w6 ⟨rfl, hb6⟩
    replace hY := hY.below hb6
    clear hC hb6
    cases cb with
    | false =>
      have HQ := hid (show r = .bad 90 by rw [← HR.out, Bool.true_and, if_neg (by decide)])
      obtain ⟨n0, n1, n2, g0, g1, g2⟩ := hY.sx.cells
      obtain ⟨t0, t1, t2, u0, u1, u2⟩ := hY.cells
      go_wp2
      obtain ⟨e0, e1, e2, e3, e4⟩ := hY.sx.fin hlt (.int .i64 0) (.string ⟨#[]⟩) (.int .i64 0)
      refine bodyPost_ret (v := .tuple #[tkV ⟨0, [], 0⟩, .iface 181 (.agg #[.int .i64 90])]) (by simp [results, Tryz.results176, go_sem, tkV, e0, e1, e2]) rfl (PostT.bad HQ.out rfl e4)
    | true =>
      have HQ := hid (show r = .ok 4 nm P2 d by rw [← HR.out, Bool.true_and, if_pos rfl])
      obtain ⟨n0, n1, n2, g0, g1, g2⟩ := hY.sx.cells
      obtain ⟨t0, t1, t2, u0, u1, u2⟩ := hY.cells
      go_wp2
      obtain ⟨e0, e1, e2, e3, e4⟩ := hY.sx.fin hlt (.int .i64 4) (.string ⟨nm.toArray⟩) (.int .i64 p)
      refine bodyPost_ret (v := .tuple #[tkV ⟨4, nm, p⟩, .nilIface]) (by simp [results, Tryz.results176, go_sem, tkV, e0, e1, e2]) rfl (PostT.ok HQ.out rfl e3 e4)


set_option maxRecDepth 100000 in
set_option maxHeartbeats 4000000 in
theorem named_n (R : Nat) (s : ByteArray) (p d : Nat) (w : World) (hs : s.size ≤ 1000000) (hp : p < s.size) (hR : RA w R s p d) (hst : isB s.data.toList p [42] = false) (r : TR) (HR : Hid ((if nameB (nameOf s.data.toList p) && closedB s.data.toList (p + 1 + (nameOf s.data.toList p).length) d then .ok 3 (nameOf s.data.toList p) (p + 1 + (nameOf s.data.toList p).length) d else .bad 90) = r)) :
    Calls Tryz.prog 176 #[.pointer (some ⟨R, 0, none⟩)] w (PostT R s p r w) := by
  have hI := fun N wx hn hx => is_at N R s p d 0 p [42] 1 1 (0, 0) wx hn hs (by omega) (by omega) rfl (by omega) hx
  rw [hst] at hI
  clear hst
  have hlt := hR.lt
  have hns := name_size s p hp
  have hNS := name_str s p
  have hLs := trim_sign (s.extract (p + 1) s.size)
  rw [rest_list] at hLs
  rw [show (s.data.toList.drop (p + 1)).takeWhile signB = nameOf s.data.toList p from rfl] at hLs
  obtain ⟨nm, hnm⟩ : ∃ nm, nameOf s.data.toList p = nm := ⟨_, rfl⟩
  rw [hnm] at HR hns hNS hLs
  clear hnm
  obtain ⟨n, hn⟩ : ∃ n, nm.length = n := ⟨_, rfl⟩
  rw [hn] at HR hns hNS hLs
  obtain ⟨P2, hP2⟩ : ∃ P2, p + 1 + n = P2 := ⟨_, rfl⟩
  rw [hP2] at HR
  have hRz : (s.extract (p + 1) s.size).size = s.size - (p + 1) := by rw [ByteArray.size_extract]; omega
  have hp1 : ((p : Int) + 1).toNat = p + 1 := by omega
  have hT := fun wx => Tryz.strings_TrimLeftFunc_grows 215 #[] (enters_of Tryz.func215 (by kernel_rfl) rfl) signR (s.extract (p + 1) s.size) wx (isSign_grows wx)
  obtain ⟨LT, hLT⟩ : ∃ LT, trimLeftF signR (s.extract (p + 1) s.size) = LT := ⟨_, rfl⟩
  rw [hLT] at hT hLs
  clear hLT
  obtain ⟨RS, hRS⟩ : ∃ RS, s.extract (p + 1) s.size = RS := ⟨_, rfl⟩
  rw [hRS] at hT hLs hRz hNS
  have hsub : (RS.size : Int) - (LT.size : Int) = (n : Int) := by omega
  have hsubw : IntKind.i64.wrap ((RS.size : Int) - (LT.size : Int)) = (n : Int) := by rw [hsub]; exact IntWalk.i64_in _ (by omega)
  have hni : (n : Int) ≤ (RS.size : Int) := by omega
  have hRb : (RS.size : Int) ≤ 1000000 := by omega
  have hnb1 : (n : Int) ≤ 1000000 := by omega
  have hN := fun wx => isName_any ⟨nm.toArray⟩ wx (by rw [size_mk]; omega)
  rw [toList_mk] at hN
  have hC := fun wx hx => isClosed_any R s P2 d 0 P2 wx hs rfl (by omega) hx
  obtain ⟨nb, hnb⟩ : ∃ nb, nameB nm = nb := ⟨_, rfl⟩
  obtain ⟨cb, hcb⟩ : ∃ cb, closedB s.data.toList P2 d = cb := ⟨_, rfl⟩
  rw [hnb] at hN HR
  rw [hcb] at hC HR
  clear hnb hcb
  have hw2 : IntKind.i64.wrap (1 + (n : Int)) = 1 + (n : Int) := IntWalk.i64_in _ (by omega)
  have hw3 : IntKind.i64.wrap ((p : Int) + (1 + (n : Int))) = (P2 : Int) := by rw [show (p : Int) + (1 + (n : Int)) = (P2 : Int) by omega]; exact IntWalk.i64_in _ (by omega)
  have hw3' : (p : Int) + (1 + (n : Int)) = (P2 : Int) := by omega
  have hpi : (p : Int) < (s.size : Int) := by omega
  have hSZ : (⟨nm.toArray⟩ : ByteArray).size = n := by rw [size_mk]; exact hn
  have HALL := hid (And.intro hRS (And.intro hNS (And.intro hRz (And.intro hSZ (And.intro hw2 (And.intro hw3 hw3'))))))
  have hpb : (p : Int) ≤ 1000000 := by omega
  clear hRS hNS hRz hSZ hw2 hw3 hw3' hP2 hn hLs hns
  have hY := Sy.new hR (.int .i64 3) (.string ⟨#[]⟩) (.int .i64 p)
  obtain ⟨r0, r1, r2, f0, f1, f2⟩ := hR.cells
  go_enter Tryz.func176, Tryz.ntmps176
  go_wp2_with fail
  refine (hI _ _ (by simp) hY.sx.ra).mono ?_
  rintro e w1 ⟨rfl, hb1⟩
  replace hY := hY.below hb1
  clear hI hb1 r0 r1 r2 f0 f1 f2
  obtain ⟨r0, r1, r2, f0, f1, f2⟩ := hY.sx.ra.cells
  obtain ⟨t0, t1, t2, u0, u1, u2⟩ := hY.cells
  have hRS := HALL.out.1
  have hp1le : (p : Int) + 1 ≤ (s.size : Int) := by omega
  go_wp2
  go_quiet (fail)
  replace hY := hY.below (below_drewN (n := nq) (Below.refl _ _))
  clear r0 r1 r2 f0 f1 f2 t0 t1 t2 u0 u1 u2 hRS hp1 hp1le
  go_wp2_with fail
  refine (hT _).mono ?_
  rintro e w2 ⟨rfl, hb2⟩
  replace hY := hY.below hb2
  clear hb2 hT
  obtain ⟨r0, r1, r2, f0, f1, f2⟩ := hY.sx.ra.cells
  obtain ⟨t0, t1, t2, u0, u1, u2⟩ := hY.cells
  have hNS := HALL.out.2.1
  replace hY := hY.putS hlt (.string ⟨nm.toArray⟩)
  go_wp2
  clear r0 r1 r2 f0 f1 f2 t0 t1 t2 u0 u1 u2 hNS
  revert hY
  generalize w2.setCell ⟨w.heap.size + 1, 1, none⟩ (.string ⟨nm.toArray⟩) = w3
  intro hY
  obtain ⟨r0, r1, r2, f0, f1, f2⟩ := hY.sx.ra.cells
  obtain ⟨t0, t1, t2, u0, u1, u2⟩ := hY.cells
  have hSZ := HALL.out.2.2.2.1
  have hw2 := HALL.out.2.2.2.2.1
  have hw3 := HALL.out.2.2.2.2.2.1
  have hw3' := HALL.out.2.2.2.2.2.2
  go_region
  replace hY := (hY.set1 hlt P2).drew
  clear r0 r1 r2 f0 f1 f2 t0 t1 t2 u0 u1 u2 hSZ hw2 hw3 hw3' HALL hsub hsubw hni
  revert hY
  generalize (w3.setCell ⟨R, 1, none⟩ (.int .i64 P2)).drew = w4
  intro hY
  obtain ⟨t0, t1, t2, u0, u1, u2⟩ := hY.cells
  go_wp2_with fail
  refine (hN _).mono ?_
  rintro e w5 ⟨rfl, hb5⟩
  replace hY := hY.below hb5
  clear hN hb5 t0 t1 t2 u0 u1 u2
  cases nb with
  | false =>
    have HQ := hid (show r = .bad 90 by rw [← HR.out, Bool.false_and, if_neg (by decide)])
    obtain ⟨n0, n1, n2, g0, g1, g2⟩ := hY.sx.cells
    obtain ⟨t0, t1, t2, u0, u1, u2⟩ := hY.cells
    go_wp2
    obtain ⟨e0, e1, e2, e3, e4⟩ := hY.sx.fin hlt (.int .i64 0) (.string ⟨#[]⟩) (.int .i64 0)
    refine bodyPost_ret (v := .tuple #[tkV ⟨0, [], 0⟩, .iface 181 (.agg #[.int .i64 90])]) (by simp [results, Tryz.results176, go_sem, tkV, e0, e1, e2]) rfl (PostT.bad HQ.out rfl e4)
  | true =>
    go_wp2_with fail
    refine (hC _ hY.sx.ra).mono ?_
    rintro e w6 ⟨rfl, hb6⟩
    replace hY := hY.below hb6
    clear hC hb6
    cases cb with
    | false =>
      have HQ := hid (show r = .bad 90 by rw [← HR.out, Bool.true_and, if_neg (by decide)])
      obtain ⟨n0, n1, n2, g0, g1, g2⟩ := hY.sx.cells
      obtain ⟨t0, t1, t2, u0, u1, u2⟩ := hY.cells
      go_wp2
      obtain ⟨e0, e1, e2, e3, e4⟩ := hY.sx.fin hlt (.int .i64 0) (.string ⟨#[]⟩) (.int .i64 0)
      refine bodyPost_ret (v := .tuple #[tkV ⟨0, [], 0⟩, .iface 181 (.agg #[.int .i64 90])]) (by simp [results, Tryz.results176, go_sem, tkV, e0, e1, e2]) rfl (PostT.bad HQ.out rfl e4)
    | true =>
      have HQ := hid (show r = .ok 3 nm P2 d by rw [← HR.out, Bool.true_and, if_pos rfl])
      obtain ⟨n0, n1, n2, g0, g1, g2⟩ := hY.sx.cells
      obtain ⟨t0, t1, t2, u0, u1, u2⟩ := hY.cells
      go_wp2
      obtain ⟨e0, e1, e2, e3, e4⟩ := hY.sx.fin hlt (.int .i64 3) (.string ⟨nm.toArray⟩) (.int .i64 p)
      refine bodyPost_ret (v := .tuple #[tkV ⟨3, nm, p⟩, .nilIface]) (by simp [results, Tryz.results176, go_sem, tkV, e0, e1, e2]) rfl (PostT.ok HQ.out rfl e3 e4)


theorem named_any (R : Nat) (s : ByteArray) (p d : Nat) (w : World) (hs : s.size ≤ 1000000) (hp : p < s.size) (hR : RA w R s p d) :
    Calls Tryz.prog 176 #[.pointer (some ⟨R, 0, none⟩)] w (PostT R s p (namedT s.data.toList p d) w) := by
  unfold namedT
  cases hst : isB s.data.toList p [42] with
  | true => exact named_s R s p d w hs hp hR hst _ (hid rfl)
  | false => exact named_n R s p d w hs hp hR hst _ (hid rfl)
end Go.Proofs.YtiinnnbpbnojgaaGreatDoor
