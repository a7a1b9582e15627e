/- What is proved: a part of the walk of the program and of its plain laws; no condition beside those that each theorem names. -/
import Derived.Test.YtaogfdffgdglkaaGreatDoorYa
import Derived.Test.YtaogfdffgdglkaaGreatDoorYl
namespace Go.Proofs.YtaogfdffgdglkaaGreatDoor
open Go Go.RowKit Go.Lib
set_option linter.unusedSimpArgs false
set_option linter.unusedVariables false
section
set_option maxRecDepth 100000
set_option maxHeartbeats 4000000
theorem QW (R : Nat) (s : ByteArray) (p d : Nat) (w : World) (hs : s.size <= 1000000) (hlt : p < s.size) (hR : RA w R s p d) (hn : BV s.data.toList p = false) (hi : C3 s.data.toList p [58] = true) (hc : AF s.data.toList (p + 1) d = false) (hd : ¬ 0 < d) :
  Calls Tryz.prog 162 #[.pointer (some ⟨R, 0, none⟩)] w fun e w' => e = .returned (.bool false) /\ Below w.heap.size w w' := by
 have hN := fun wx hx => CG R s p d wx hs (by omega) hx
 have hC := fun wx hx => Bv R s p d 1 (p + 1) wx hs rfl (by omega) hx
 have hI := fun wx hx => DJ R s p d 0 p [58] 1 1 wx hs (by omega) (by omega) rfl (by omega) hx
 have hF := fun wx hx => D5 R s p d 0 p CN 5 5 (5, 6) wx hs (by omega) (by omega) rfl (by omega) hx
 have hcv := fun (w : World) (C : Array Value) (n c : Nat) => Lib.run_convert_bytes_const (P := Tryz.prog) w 90 5 C n c Tryz.underlying90 Tryz.underlying5
 have hd1 : decide ((s.size : Int) <= (p : Int)) = false := by simp; omega
 have hd2 : decide (s.size <= p) = false := by simp; omega
 rw [hn] at hN
 rw [hi] at hI
 rw [hc] at hC
 have hdd : decide ((0 : Int) < (d : Int)) = false := by simp; omega
 have hdd2 : decide (0 < d) = false := by simp; omega
 clear hd
 clear hn hi hc
 have hH := Al.refl hR
 obtain ⟨FF, hFF⟩ : ∃ FF, C3 s.data.toList p CN = FF := ⟨_, rfl⟩
 rw [hFF] at hF
 clear hFF hlt
 go_enter Tryz.func162, Tryz.ntmps162
 go_wp2
 refine wp_region_noPanic ?_
 refine wR 45 (S := (fun w' => w'.cell? ⟨R, 0, none⟩ = some (.string s) /\ w'.cell? ⟨R, 1, none⟩ = some (.int .i64 p) /\ w'.cell? ⟨R, 2, none⟩ = some (.int .i64 d))) rfl ?_ (fun hHeld => ?_)
 ·(try dsimp only); first | exact Al.all hH | exact Al.all (Al.alloc hH _)
 simp only [gR]
 iterate 16 (refine wN hHeld ?_; try simp only [gS])
 refine wB 16 rfl (fun K hK => ?_)
 go_simp
 refine (hN _ hH.ra).mono ?_
 rintro e wz ⟨rfl, hb⟩
 replace hH := Al.step hH hb
 try go_wp2_with fail
 refine hK.out _ _ ?_ (fun hHeld2 => ?_)
 ·(try dsimp only); first | exact Al.all hH | exact Al.all (Al.alloc hH _)
 clear hK K hHeld
 have hHeld := hHeld2; clear hHeld2
 try simp only [gS]
 iterate 5 (refine wN hHeld ?_; try simp only [gS])
 refine wB 22 rfl (fun K hK => ?_)
 go_simp
 refine hK.out _ _ ?_ (fun hHeld2 => ?_)
 ·(try dsimp only); first | exact Al.all hH | exact Al.all (Al.alloc hH _)
 clear hK K hHeld
 have hHeld := hHeld2; clear hHeld2
 try simp only [gS]
 refine wB 23 rfl (fun K hK => ?_)
 go_simp
 refine (hI _ hH.ra).mono ?_
 rintro e wz ⟨rfl, hb⟩
 replace hH := Al.step hH hb
 try go_wp2_with fail
 refine hK.out _ _ ?_ (fun hHeld2 => ?_)
 ·(try dsimp only); first | exact Al.all hH | exact Al.all (Al.alloc hH _)
 clear hK K hHeld
 have hHeld := hHeld2; clear hHeld2
 try simp only [gS]
 iterate 2 (refine wN hHeld ?_; try simp only [gS])
 refine wB 26 rfl (fun K hK => ?_)
 go_simp
 refine (hC _ hH.ra).mono ?_
 rintro e wz ⟨rfl, hb⟩
 replace hH := Al.step hH hb
 try go_wp2_with fail
 refine hK.out _ _ ?_ (fun hHeld2 => ?_)
 ·(try dsimp only); first | exact Al.all hH | exact Al.all (Al.alloc hH _)
 clear hK K hHeld
 have hHeld := hHeld2; clear hHeld2
 try simp only [gS]
 iterate 9 (refine wN hHeld ?_; try simp only [gS])
 refine wU 36 rfl (by rfl) hHeld ?_
 try simp only [gS]
 refine wU 37 rfl (by rfl) hHeld ?_
 try simp only [gS]
 refine wU 38 rfl (by rfl) hHeld ?_
 try simp only [gS]
 refine wU 39 rfl (by rfl) hHeld ?_
 try simp only [gS]
 refine wU 40 rfl (by rfl) hHeld ?_
 try simp only [gS]
 refine wU 41 rfl (by rfl) hHeld ?_
 try simp only [gS]
 iterate 3 (refine wN hHeld ?_; try simp only [gS])
 refine wpAnyH_done (by kernel_rfl) ?_ _
 refine NoPanic.normal ?_
 go_wp2
 go_ret
 exact ⟨rfl, hH.1⟩
theorem R9 (R : Nat) (s : ByteArray) (p d : Nat) (w : World) (hs : s.size <= 1000000) (hlt : p < s.size) (hR : RA w R s p d) (hn : BV s.data.toList p = false) (hi : C3 s.data.toList p [58] = false) (hd : 0 < d) :
  Calls Tryz.prog 162 #[.pointer (some ⟨R, 0, none⟩)] w fun e w' => e = .returned (.bool (C3 s.data.toList p CN)) /\ Below w.heap.size w w' := by
 have hN := fun wx hx => CG R s p d wx hs (by omega) hx
 have hC := fun wx hx => Bv R s p d 1 (p + 1) wx hs rfl (by omega) hx
 have hI := fun wx hx => DJ R s p d 0 p [58] 1 1 wx hs (by omega) (by omega) rfl (by omega) hx
 have hF := fun wx hx => D5 R s p d 0 p CN 5 5 (5, 6) wx hs (by omega) (by omega) rfl (by omega) hx
 have hcv := fun (w : World) (C : Array Value) (n c : Nat) => Lib.run_convert_bytes_const (P := Tryz.prog) w 90 5 C n c Tryz.underlying90 Tryz.underlying5
 have hd1 : decide ((s.size : Int) <= (p : Int)) = false := by simp; omega
 have hd2 : decide (s.size <= p) = false := by simp; omega
 rw [hn] at hN
 rw [hi] at hI
 have hdd : decide ((0 : Int) < (d : Int)) = true := by simpa using hd
 have hdd2 : decide (0 < d) = true := by simpa using hd
 clear hd
 clear hn hi
 have hH := Al.refl hR
 obtain ⟨FF, hFF⟩ : ∃ FF, C3 s.data.toList p CN = FF := ⟨_, rfl⟩
 rw [hFF] at hF |-
 clear hFF hlt
 go_enter Tryz.func162, Tryz.ntmps162
 go_wp2
 refine wp_region_noPanic ?_
 refine wR 45 (S := (fun w' => w'.cell? ⟨R, 0, none⟩ = some (.string s) /\ w'.cell? ⟨R, 1, none⟩ = some (.int .i64 p) /\ w'.cell? ⟨R, 2, none⟩ = some (.int .i64 d))) rfl ?_ (fun hHeld => ?_)
 ·(try dsimp only); first | exact Al.all hH | exact Al.all (Al.alloc hH _)
 simp only [gR]
 iterate 16 (refine wN hHeld ?_; try simp only [gS])
 refine wB 16 rfl (fun K hK => ?_)
 go_simp
 refine (hN _ hH.ra).mono ?_
 rintro e wz ⟨rfl, hb⟩
 replace hH := Al.step hH hb
 try go_wp2_with fail
 refine hK.out _ _ ?_ (fun hHeld2 => ?_)
 ·(try dsimp only); first | exact Al.all hH | exact Al.all (Al.alloc hH _)
 clear hK K hHeld
 have hHeld := hHeld2; clear hHeld2
 try simp only [gS]
 iterate 5 (refine wN hHeld ?_; try simp only [gS])
 refine wB 22 rfl (fun K hK => ?_)
 go_simp
 refine hK.out _ _ ?_ (fun hHeld2 => ?_)
 ·(try dsimp only); first | exact Al.all hH | exact Al.all (Al.alloc hH _)
 clear hK K hHeld
 have hHeld := hHeld2; clear hHeld2
 try simp only [gS]
 refine wB 23 rfl (fun K hK => ?_)
 go_simp
 refine (hI _ hH.ra).mono ?_
 rintro e wz ⟨rfl, hb⟩
 replace hH := Al.step hH hb
 try go_wp2_with fail
 refine hK.out _ _ ?_ (fun hHeld2 => ?_)
 ·(try dsimp only); first | exact Al.all hH | exact Al.all (Al.alloc hH _)
 clear hK K hHeld
 have hHeld := hHeld2; clear hHeld2
 try simp only [gS]
 refine wN hHeld ?_; try simp only [gS]
 refine wU 25 rfl (by rfl) hHeld ?_
 try simp only [gS]
 refine wU 26 rfl (by rfl) hHeld ?_
 try simp only [gS]
 iterate 12 (refine wN hHeld ?_; try simp only [gS])
 refine wB 39 rfl (fun K hK => ?_)
 go_simp
 refine hK.out _ _ ?_ (fun hHeld2 => ?_)
 ·(try dsimp only); first | exact Al.all hH | exact Al.all (Al.alloc hH _)
 clear hK K hHeld
 have hHeld := hHeld2; clear hHeld2
 try simp only [gS]
 refine wB 40 rfl (fun K hK => ?_)
 go_simp
 refine hK.out _ _ ?_ (fun hHeld2 => ?_)
 ·(try dsimp only); first | exact Al.all hH | exact Al.all (Al.alloc hH _)
 clear hK K hHeld
 have hHeld := hHeld2; clear hHeld2
 try simp only [gS]
 refine wB 41 rfl (fun K hK => ?_)
 go_simp
 refine (hF _ hH.ra).mono ?_
 rintro e wz ⟨rfl, hb⟩
 replace hH := Al.step hH hb
 try go_wp2_with fail
 refine hK.out _ _ ?_ (fun hHeld2 => ?_)
 ·(try dsimp only); first | exact Al.all hH | exact Al.all (Al.alloc hH _)
 clear hK K hHeld
 have hHeld := hHeld2; clear hHeld2
 try simp only [gS]
 iterate 3 (refine wN hHeld ?_; try simp only [gS])
 refine wpAnyH_done (by kernel_rfl) ?_ _
 refine NoPanic.normal ?_
 go_wp2
 go_ret
 exact ⟨rfl, hH.1⟩
theorem Rk (R : Nat) (s : ByteArray) (p d : Nat) (w : World) (hs : s.size <= 1000000) (hlt : p < s.size) (hR : RA w R s p d) (hn : BV s.data.toList p = false) (hi : C3 s.data.toList p [58] = false) (hd : ¬ 0 < d) :
  Calls Tryz.prog 162 #[.pointer (some ⟨R, 0, none⟩)] w fun e w' => e = .returned (.bool false) /\ Below w.heap.size w w' := by
 have hN := fun wx hx => CG R s p d wx hs (by omega) hx
 have hC := fun wx hx => Bv R s p d 1 (p + 1) wx hs rfl (by omega) hx
 have hI := fun wx hx => DJ R s p d 0 p [58] 1 1 wx hs (by omega) (by omega) rfl (by omega) hx
 have hF := fun wx hx => D5 R s p d 0 p CN 5 5 (5, 6) wx hs (by omega) (by omega) rfl (by omega) hx
 have hcv := fun (w : World) (C : Array Value) (n c : Nat) => Lib.run_convert_bytes_const (P := Tryz.prog) w 90 5 C n c Tryz.underlying90 Tryz.underlying5
 have hd1 : decide ((s.size : Int) <= (p : Int)) = false := by simp; omega
 have hd2 : decide (s.size <= p) = false := by simp; omega
 rw [hn] at hN
 rw [hi] at hI
 have hdd : decide ((0 : Int) < (d : Int)) = false := by simp; omega
 have hdd2 : decide (0 < d) = false := by simp; omega
 clear hd
 clear hn hi
 have hH := Al.refl hR
 obtain ⟨FF, hFF⟩ : ∃ FF, C3 s.data.toList p CN = FF := ⟨_, rfl⟩
 rw [hFF] at hF
 clear hFF hlt
 go_enter Tryz.func162, Tryz.ntmps162
 go_wp2
 refine wp_region_noPanic ?_
 refine wR 45 (S := (fun w' => w'.cell? ⟨R, 0, none⟩ = some (.string s) /\ w'.cell? ⟨R, 1, none⟩ = some (.int .i64 p) /\ w'.cell? ⟨R, 2, none⟩ = some (.int .i64 d))) rfl ?_ (fun hHeld => ?_)
 ·(try dsimp only); first | exact Al.all hH | exact Al.all (Al.alloc hH _)
 simp only [gR]
 iterate 16 (refine wN hHeld ?_; try simp only [gS])
 refine wB 16 rfl (fun K hK => ?_)
 go_simp
 refine (hN _ hH.ra).mono ?_
 rintro e wz ⟨rfl, hb⟩
 replace hH := Al.step hH hb
 try go_wp2_with fail
 refine hK.out _ _ ?_ (fun hHeld2 => ?_)
 ·(try dsimp only); first | exact Al.all hH | exact Al.all (Al.alloc hH _)
 clear hK K hHeld
 have hHeld := hHeld2; clear hHeld2
 try simp only [gS]
 iterate 5 (refine wN hHeld ?_; try simp only [gS])
 refine wB 22 rfl (fun K hK => ?_)
 go_simp
 refine hK.out _ _ ?_ (fun hHeld2 => ?_)
 ·(try dsimp only); first | exact Al.all hH | exact Al.all (Al.alloc hH _)
 clear hK K hHeld
 have hHeld := hHeld2; clear hHeld2
 try simp only [gS]
 refine wB 23 rfl (fun K hK => ?_)
 go_simp
 refine (hI _ hH.ra).mono ?_
 rintro e wz ⟨rfl, hb⟩
 replace hH := Al.step hH hb
 try go_wp2_with fail
 refine hK.out _ _ ?_ (fun hHeld2 => ?_)
 ·(try dsimp only); first | exact Al.all hH | exact Al.all (Al.alloc hH _)
 clear hK K hHeld
 have hHeld := hHeld2; clear hHeld2
 try simp only [gS]
 refine wN hHeld ?_; try simp only [gS]
 refine wU 25 rfl (by rfl) hHeld ?_
 try simp only [gS]
 refine wU 26 rfl (by rfl) hHeld ?_
 try simp only [gS]
 iterate 9 (refine wN hHeld ?_; try simp only [gS])
 refine wU 36 rfl (by rfl) hHeld ?_
 try simp only [gS]
 refine wU 37 rfl (by rfl) hHeld ?_
 try simp only [gS]
 refine wU 38 rfl (by rfl) hHeld ?_
 try simp only [gS]
 refine wU 39 rfl (by rfl) hHeld ?_
 try simp only [gS]
 refine wU 40 rfl (by rfl) hHeld ?_
 try simp only [gS]
 refine wU 41 rfl (by rfl) hHeld ?_
 try simp only [gS]
 iterate 3 (refine wN hHeld ?_; try simp only [gS])
 refine wpAnyH_done (by kernel_rfl) ?_ _
 refine NoPanic.normal ?_
 go_wp2
 go_ret
 exact ⟨rfl, hH.1⟩
theorem Rz (R : Nat) (s : ByteArray) (p d : Nat) (w : World) (hs : s.size <= 1000000) (hp : p <= 1000000) (hge : s.size <= p) (hR : RA w R s p d) :
  Calls Tryz.prog 162 #[.pointer (some ⟨R, 0, none⟩)] w fun e w' => e = .returned (.bool true) /\ Below w.heap.size w w' := by
 obtain ⟨r0, r1, r2, _⟩ := hR.cells
 have hd1 : decide ((s.size : Int) <= (p : Int)) = true := by simp; omega
 have hd2 : decide (s.size <= p) = true := by simp; omega
 go_enter Tryz.func162, Tryz.ntmps162
 go_wp2
 go_quiet (fail)
 go_wp2
 go_ret
 exact ⟨rfl, Ae (Bq _ _)⟩
theorem P3 (R : Nat) (s : ByteArray) (p d : Nat) (w : World) (hs : s.size <= 1000000) (hp : p <= 1000000) (hR : RA w R s p d) :
  Calls Tryz.prog 162 #[.pointer (some ⟨R, 0, none⟩)] w fun e w' => e = .returned (.bool (G7 s.data.toList p d)) /\ Below w.heap.size w w' := by
 unfold G7
 rw [<- Lib.size_eq]
 rcases Nat.lt_or_ge p s.size with hlt | hge
 ·rw [decide_eq_false (by omega), Bool.false_or]
  cases hn : BV s.data.toList p with
  | true => rw [Bool.true_or]; exact SR R s p d w hs hlt hR hn
  | false =>
   rw [Bool.false_or]
   cases hi : C3 s.data.toList p [58] with
   | true =>
    rw [Bool.true_and]
    cases hc : AF s.data.toList (p + 1) d with
    | true => rw [Bool.true_or]; exact Rg R s p d w hs hlt hR hn hi hc
    | false =>
     rw [Bool.false_or]
     by_cases hd : 0 < d
     ·rw [decide_eq_true hd, Bool.true_and]; exact S3 R s p d w hs hlt hR hn hi hc hd
     ·rw [decide_eq_false hd, Bool.false_and]; exact QW R s p d w hs hlt hR hn hi hc hd
   | false =>
    rw [Bool.false_and, Bool.false_or]
    by_cases hd : 0 < d
    ·rw [decide_eq_true hd, Bool.true_and]; exact R9 R s p d w hs hlt hR hn hi hd
    ·rw [decide_eq_false hd, Bool.false_and]; exact Rk R s p d w hs hlt hR hn hi hd
 ·rw [decide_eq_true hge, Bool.true_or]; exact Rz R s p d w hs hp hge hR
end
end Go.Proofs.YtaogfdffgdglkaaGreatDoor
