/- What is proved: package tok's readers and one: the piece at the place. -/
import Derived.Test.YtiinnnbpbnojgaaGreatDoorKk
namespace Go.Proofs.YtiinnnbpbnojgaaGreatDoor
open Go Go.RowKit Go.Lib
set_option linter.unusedSimpArgs false
set_option linter.unusedVariables false

theorem below_of_alloc {w w' : World} {o : Obj} (h : w' = w.alloc o) : Below w.heap.size w w' := by rw [h]; exact (Below.refl _ _).alloc (Nat.le_refl _) _
theorem heap_of_alloc {w w' : World} {o : Obj} (h : w' = w.alloc o) : w'.heap[w.heap.size]? = some o := by rw [h]; exact World.alloc_heap_new _ _
/-- A reader's method, as a value. -/
abbrev fnV (R f : Nat) : Value := .iface 179 (.func (.func f) #[.pointer (some ⟨R, 0, none⟩)] #[])
def rdL (R : Nat) : List (Int × Value) := [(34, (fnV R 175)), (39, (fnV R 175)), (38, (fnV R 176)), (42, (fnV R 176)), (45, (fnV R 177)), (58, (fnV R 178)), (91, (fnV R 179)), (123, (fnV R 179)), (44, (fnV R 180)), (93, (fnV R 180)), (125, (fnV R 180))]
def rdObj (R k : Nat) : Obj := mapObj encU ((rdL R).take k)
theorem run_rd_at (R : Nat) (w : World) (k : Nat) (a : Int) (v : Value) (h : assoc a ((rdL R).take k) = none) (hk : (rdL R).take (k + 1) = (rdL R).take k ++ [(a, v)]) :
    (Instr.mapUpdate 246 (.map (some w.heap.size)) (.int .u8 a) v).run Tryz.prog (w.alloc (rdObj R k)) = .ok () (w.alloc (rdObj R (k + 1))) := by
  unfold rdObj
  rw [hk]
  have := run_put_list (P := Tryz.prog) (enc := encU) sameU isKeyU (t := 246) (k := 5) (e := 20) (w := w.alloc (mapObj encU ((rdL R).take k))) (l := (rdL R).take k) Tryz.underlying246 Tryz.underlying5 (World.alloc_heap_new w _) a v h
  rw [putObj_new] at this
  exact this
theorem look_rd (R : Nat) (c : Int) (w : World) (b : Nat) (hb : w.heap[b]? = some (rdObj R 11)) :
    (Instr.lookup 246 (.map (some b)) (.int .u8 c) true).run Tryz.prog w = .ok (.tuple #[(assoc c (rdL R)).getD .nilIface, .bool (assoc c (rdL R)).isSome]) w :=
  run_lookup_list (P := Tryz.prog) (enc := encU) sameU isKeyU (k := 5) (e := 20) (l := rdL R) (z := .nilIface) Tryz.underlying246 Tryz.underlying5 (by kernel_rfl) hb c true

set_option maxRecDepth 100000 in
set_option maxHeartbeats 4000000 in
theorem readers_any (R : Nat) (w : World) :
    Calls Tryz.prog 140 #[.pointer (some ⟨R, 0, none⟩)] w fun e w' => e = .returned (.map (some w.heap.size)) ∧ w' = w.alloc (rdObj R 11) := by
  have hmm := @run_makeMap Tryz.prog
  have h0 := run_rd_at R w 0 34 (fnV R 175) (by rfl) rfl
  rw [show rdObj R 0 = .map #[] 0 from rfl] at h0
  have h1 := run_rd_at R w 1 39 (fnV R 175) (by rfl) rfl
  have h2 := run_rd_at R w 2 38 (fnV R 176) (by rfl) rfl
  have h3 := run_rd_at R w 3 42 (fnV R 176) (by rfl) rfl
  have h4 := run_rd_at R w 4 45 (fnV R 177) (by rfl) rfl
  have h5 := run_rd_at R w 5 58 (fnV R 178) (by rfl) rfl
  have h6 := run_rd_at R w 6 91 (fnV R 179) (by rfl) rfl
  have h7 := run_rd_at R w 7 123 (fnV R 179) (by rfl) rfl
  have h8 := run_rd_at R w 8 44 (fnV R 180) (by rfl) rfl
  have h9 := run_rd_at R w 9 93 (fnV R 180) (by rfl) rfl
  have h10 := run_rd_at R w 10 125 (fnV R 180) (by rfl) rfl
  go_enter Tryz.func140, Tryz.ntmps140
  go_wp2
  go_ret
  exact ⟨rfl, rfl⟩

theorem fn_assert (v : Value) (w : World) : (Instr.typeAssert (.iface 179 v) 20 179 false).run Tryz.prog w = .ok v w := by kernel_rfl


set_option maxRecDepth 100000 in
set_option maxHeartbeats 4000000 in
theorem one_fn (f : Nat) (eg : ∀ args w, (callFunc f args).run Tryz.prog w = .ok (.enter f args) w) (R : Nat) (s : ByteArray) (p d : Nat) (w : World) (hs : s.size ≤ 1000000) (hp : p < s.size) (hR : RA w R s p d) (hTab : TabR R w) (c : UInt8) (hc : s[p]'hp = c) (hA : assoc (c.toNat : Int) (rdL R) = some (fnV R f)) (r : TR)
    (hF : ∀ wx, RA wx R s p d → TabR R wx → Calls Tryz.prog f #[.pointer (some ⟨R, 0, none⟩)] wx (PostT R s p r wx)) :
    Calls Tryz.prog 94 #[.pointer (some ⟨R, 0, none⟩)] w (PostT R s p r w) := by
  have HA := hid hA
  clear hA
  have hlt := hR.lt
  have hta := fn_assert
  have hpi : (p : Int) < (s.size : Int) := by omega
  have hS := Sx.new hR
  go_enter Tryz.func94, Tryz.ntmps94
  go_wp2
  replace hS := hS.below (Below.refl _ _).drew
  refine wp_region_noPanic ?_
  refine wp_region_held_drew (S := (fun w' => w'.cell? ⟨R, 0, none⟩ = some (.string s) ∧ w'.cell? ⟨R, 1, none⟩ = some (.int .i64 p))) (by kernel_rfl) ?_ (fun hHeld => ?_)
  · (try dsimp only); exact ⟨hS.ra.cells.1, hS.ra.cells.2.1⟩
  refine wpAnyH_take (i := 0) (v := ?_) rfl (by kernel_rfl) (by kernel_rfl) (by kernel_rfl) (fun _ _ _ h => h) (Or.inl ⟨by rfl, ?_⟩) hHeld ?_
  rotate_left
  · intro w hSw; (try dsimp only at hSw); (try simp only [List.getElem_toArray, List.getElem_cons_succ, List.getElem_cons_zero]); go_simp; (try with_reducible rfl)
  try simp only [Act.put, List.getElem_toArray, List.getElem_cons_succ, List.getElem_cons_zero, List.setIfInBounds_toArray, List.set_cons_zero, List.set_cons_succ]
  refine wpAnyH_take (i := 2) (v := ?_) rfl (by kernel_rfl) (by kernel_rfl) (by kernel_rfl) (fun _ _ _ h => h) (Or.inl ⟨by rfl, ?_⟩) hHeld ?_
  rotate_left
  · intro w hSw; (try dsimp only at hSw); (try simp only [List.getElem_toArray, List.getElem_cons_succ, List.getElem_cons_zero]); go_simp; (try with_reducible rfl)
  try simp only [Act.put, List.getElem_toArray, List.getElem_cons_succ, List.getElem_cons_zero, List.setIfInBounds_toArray, List.set_cons_zero, List.set_cons_succ]
  refine wpAnyH_take (i := 3) (v := ?_) rfl (by kernel_rfl) (by kernel_rfl) (by kernel_rfl) (fun _ _ _ h => h) (Or.inl ⟨by rfl, ?_⟩) hHeld ?_
  rotate_left
  · intro w hSw; (try dsimp only at hSw); (try simp only [List.getElem_toArray, List.getElem_cons_succ, List.getElem_cons_zero]); go_simp; (try with_reducible rfl)
  try simp only [Act.put, List.getElem_toArray, List.getElem_cons_succ, List.getElem_cons_zero, List.setIfInBounds_toArray, List.set_cons_zero, List.set_cons_succ]
  refine wpAnyH_take (i := 4) (v := ?_) rfl (by kernel_rfl) (by kernel_rfl) (by kernel_rfl) (fun _ _ _ h => h) (Or.inl ⟨by rfl, ?_⟩) hHeld ?_
  rotate_left
  · intro w hSw; (try dsimp only at hSw); (try simp only [List.getElem_toArray, List.getElem_cons_succ, List.getElem_cons_zero]); go_simp; (try with_reducible rfl)
  try simp only [Act.put, List.getElem_toArray, List.getElem_cons_succ, List.getElem_cons_zero, List.setIfInBounds_toArray, List.set_cons_zero, List.set_cons_succ]
  refine wpAnyH_take (i := 5) (v := ?_) rfl (by kernel_rfl) (by kernel_rfl) (by kernel_rfl) (fun _ _ _ h => h) (Or.inl ⟨by rfl, ?_⟩) hHeld ?_
  rotate_left
  · intro w hSw; (try dsimp only at hSw); (try simp only [List.getElem_toArray, List.getElem_cons_succ, List.getElem_cons_zero]); go_simp; (try with_reducible rfl)
  try simp only [Act.put, List.getElem_toArray, List.getElem_cons_succ, List.getElem_cons_zero, List.setIfInBounds_toArray, List.set_cons_zero, List.set_cons_succ]
  refine wpAnyH_take (i := 6) (v := ?_) rfl (by kernel_rfl) (by kernel_rfl) (by kernel_rfl) (fun _ _ _ h => h) (Or.inl ⟨by rfl, ?_⟩) hHeld ?_
  rotate_left
  · intro w hSw; (try dsimp only at hSw); (try simp only [List.getElem_toArray, List.getElem_cons_succ, List.getElem_cons_zero]); go_simp; (try with_reducible rfl)
  try simp only [Act.put, List.getElem_toArray, List.getElem_cons_succ, List.getElem_cons_zero, List.setIfInBounds_toArray, List.set_cons_zero, List.set_cons_succ]
  refine wpAnyH_take (i := 7) (v := ?_) rfl (by kernel_rfl) (by kernel_rfl) (by kernel_rfl) (fun _ _ _ h => h) (Or.inl ⟨by rfl, ?_⟩) hHeld ?_
  rotate_left
  · intro w hSw; (try dsimp only at hSw); (try simp only [List.getElem_toArray, List.getElem_cons_succ, List.getElem_cons_zero]); go_simp; (try with_reducible rfl)
  try simp only [Act.put, List.getElem_toArray, List.getElem_cons_succ, List.getElem_cons_zero, List.setIfInBounds_toArray, List.set_cons_zero, List.set_cons_succ]
  refine wpAnyH_take (i := 8) (v := ?_) rfl (by kernel_rfl) (by kernel_rfl) (by kernel_rfl) (fun _ _ _ h => h) (Or.inl ⟨by rfl, ?_⟩) hHeld ?_
  rotate_left
  · intro w hSw; (try dsimp only at hSw); (try simp only [List.getElem_toArray, List.getElem_cons_succ, List.getElem_cons_zero]); go_simp; (try with_reducible rfl)
  try simp only [Act.put, List.getElem_toArray, List.getElem_cons_succ, List.getElem_cons_zero, List.setIfInBounds_toArray, List.set_cons_zero, List.set_cons_succ]
  refine wpAnyH_take (i := 9) (v := ?_) rfl (by kernel_rfl) (by kernel_rfl) (by kernel_rfl) (fun _ _ _ h => h) (Or.inl ⟨by rfl, ?_⟩) hHeld ?_
  rotate_left
  · intro w hSw; (try dsimp only at hSw); (try simp only [List.getElem_toArray, List.getElem_cons_succ, List.getElem_cons_zero]); go_simp; (try with_reducible rfl)
  try simp only [Act.put, List.getElem_toArray, List.getElem_cons_succ, List.getElem_cons_zero, List.setIfInBounds_toArray, List.set_cons_zero, List.set_cons_succ]
  refine wpAnyH_take (i := 10) (v := ?_) rfl (by kernel_rfl) (by kernel_rfl) (by kernel_rfl) (fun _ _ _ h => h) (Or.inl ⟨by rfl, ?_⟩) hHeld ?_
  rotate_left
  · intro w hSw; (try dsimp only at hSw); (try simp only [List.getElem_toArray, List.getElem_cons_succ, List.getElem_cons_zero]); go_simp; (try with_reducible rfl)
  try simp only [Act.put, List.getElem_toArray, List.getElem_cons_succ, List.getElem_cons_zero, List.setIfInBounds_toArray, List.set_cons_zero, List.set_cons_succ]
  refine wpAnyH_take (i := 11) (v := ?_) rfl (by kernel_rfl) (by kernel_rfl) (by kernel_rfl) (fun _ _ _ h => h) (Or.inl ⟨by rfl, ?_⟩) hHeld ?_
  rotate_left
  · intro w hSw; (try dsimp only at hSw); (try simp only [List.getElem_toArray, List.getElem_cons_succ, List.getElem_cons_zero]); go_simp; (try with_reducible rfl)
  try simp only [Act.put, List.getElem_toArray, List.getElem_cons_succ, List.getElem_cons_zero, List.setIfInBounds_toArray, List.set_cons_zero, List.set_cons_succ]
  refine wpAnyH_take (i := 12) (v := ?_) rfl (by kernel_rfl) (by kernel_rfl) (by kernel_rfl) (fun _ _ _ h => h) (Or.inl ⟨by rfl, ?_⟩) hHeld ?_
  rotate_left
  · intro w hSw; (try dsimp only at hSw); (try simp only [List.getElem_toArray, List.getElem_cons_succ, List.getElem_cons_zero]); go_simp; (try with_reducible rfl)
  try simp only [Act.put, List.getElem_toArray, List.getElem_cons_succ, List.getElem_cons_zero, List.setIfInBounds_toArray, List.set_cons_zero, List.set_cons_succ]
  refine wpAnyH_ready (rs := [1]) (by kernel_rfl) (by simp) ?_
  refine AllReadyH.cons rfl (fun K hK => ?_) AllReadyH.nil
  go_simp
  refine (readers_any R _).mono ?_
  rintro e wz ⟨rfl, hwz⟩
  have hb := below_of_alloc hwz
  replace hS := hS.below hb
  have hMap := look_rd R (c.toNat : Int) wz _ (heap_of_alloc hwz)
  rw [HA.out] at hMap
  (have hz : (((w.alloc (.cells #[.int .i64 0, .string ⟨#[]⟩, .int .i64 0] 39)).drew).heap.size) = w.heap.size + 1 := World.size_alloc _ _)
  try rw [hz] at hMap
  clear hwz hb hz
  try go_wp2_with fail
  refine hK.out _ _ ?_ (fun hHeld2 => ?_)
  · (try dsimp only); exact ⟨hS.ra.cells.1, hS.ra.cells.2.1⟩
  clear hK K hHeld
  have hHeld := hHeld2; clear hHeld2
  try simp only [Act.put, List.getElem_toArray, List.getElem_cons_succ, List.getElem_cons_zero, List.setIfInBounds_toArray, List.set_cons_zero, List.set_cons_succ]
  refine wpAnyH_ready (rs := [13]) (by kernel_rfl) (by simp) ?_
  refine AllReadyH.cons rfl (fun K hK => ?_) AllReadyH.nil
  skip
  go_simp
  refine hK.out _ _ ?_ (fun hHeld2 => ?_)
  · (try dsimp only); exact ⟨hS.ra.cells.1, hS.ra.cells.2.1⟩
  clear hK K hHeld
  have hHeld := hHeld2; clear hHeld2
  try simp only [Act.put, List.getElem_toArray, List.getElem_cons_succ, List.getElem_cons_zero, List.setIfInBounds_toArray, List.set_cons_zero, List.set_cons_succ]
  refine wpAnyH_take (i := 14) (v := ?_) rfl (by kernel_rfl) (by kernel_rfl) (by kernel_rfl) (fun _ _ _ h => h) (Or.inl ⟨by rfl, ?_⟩) hHeld ?_
  rotate_left
  · intro w hSw; (try dsimp only at hSw); (try simp only [List.getElem_toArray, List.getElem_cons_succ, List.getElem_cons_zero]); go_simp; (try with_reducible rfl)
  try simp only [Act.put, List.getElem_toArray, List.getElem_cons_succ, List.getElem_cons_zero, List.setIfInBounds_toArray, List.set_cons_zero, List.set_cons_succ]
  refine wpAnyH_take (i := 15) (v := ?_) rfl (by kernel_rfl) (by kernel_rfl) (by kernel_rfl) (fun _ _ _ h => h) (Or.inl ⟨by rfl, ?_⟩) hHeld ?_
  rotate_left
  · intro w hSw; (try dsimp only at hSw); (try simp only [List.getElem_toArray, List.getElem_cons_succ, List.getElem_cons_zero]); go_simp; (try with_reducible rfl)
  try simp only [Act.put, List.getElem_toArray, List.getElem_cons_succ, List.getElem_cons_zero, List.setIfInBounds_toArray, List.set_cons_zero, List.set_cons_succ]
  refine wpAnyH_take (i := 16) (v := ?_) rfl (by kernel_rfl) (by kernel_rfl) (by kernel_rfl) (fun _ _ _ h => h) (Or.inl ⟨by rfl, ?_⟩) hHeld ?_
  rotate_left
  · intro w hSw; (try dsimp only at hSw); (try simp only [List.getElem_toArray, List.getElem_cons_succ, List.getElem_cons_zero]); go_simp; (try with_reducible rfl)
  try simp only [Act.put, List.getElem_toArray, List.getElem_cons_succ, List.getElem_cons_zero, List.setIfInBounds_toArray, List.set_cons_zero, List.set_cons_succ]
  refine wpAnyH_take (i := 17) (v := ?_) rfl (by kernel_rfl) (by kernel_rfl) (by kernel_rfl) (fun _ _ _ h => h) (Or.inl ⟨by rfl, ?_⟩) hHeld ?_
  rotate_left
  · intro w hSw; (try dsimp only at hSw); (try simp only [List.getElem_toArray, List.getElem_cons_succ, List.getElem_cons_zero]); go_simp; (try with_reducible rfl)
  try simp only [Act.put, List.getElem_toArray, List.getElem_cons_succ, List.getElem_cons_zero, List.setIfInBounds_toArray, List.set_cons_zero, List.set_cons_succ]
  refine wpAnyH_take (i := 18) (v := ?_) rfl (by kernel_rfl) (by kernel_rfl) (by kernel_rfl) (fun _ _ _ h => h) (Or.inl ⟨by rfl, ?_⟩) hHeld ?_
  rotate_left
  · intro w hSw; (try dsimp only at hSw); (try simp only [List.getElem_toArray, List.getElem_cons_succ, List.getElem_cons_zero]); go_simp; (try with_reducible rfl)
  try simp only [Act.put, List.getElem_toArray, List.getElem_cons_succ, List.getElem_cons_zero, List.setIfInBounds_toArray, List.set_cons_zero, List.set_cons_succ]
  refine wpAnyH_done (by kernel_rfl) ?_ _
  refine NoPanic.normal ?_
  clear hMap
  go_wp2_with fail
  refine (hF _ hS.ra (hTab.mod hS.md)).mono ?_
  rintro e w2 hQ
  clear hF
  cases r with
  | ok k t q d' =>
    obtain ⟨rfl, hr2, hm2⟩ := hQ
    replace hS := hS.mod hlt hr2 hm2
    clear hr2 hm2
    obtain ⟨n0, n1, n2, g0, g1, g2⟩ := hS.cells
    unfold tkV
    go_wp2
    obtain ⟨e0, e1, e2, e3, e4⟩ := hS.fin hlt (.int .i64 k) (.string ⟨t.toArray⟩) (.int .i64 p)
    refine bodyPost_ret (v := .tuple #[tkV ⟨k, t, p⟩, .nilIface]) (by simp [results, Tryz.results94, go_sem, tkV, e0, e1, e2]) rfl (PostT.ok rfl rfl e3 e4)
  | bad er =>
    obtain ⟨rfl, hm2⟩ := hQ
    have hZ := hS.sz hlt hm2
    clear hS hm2
    obtain ⟨n0, n1, n2, g0, g1, g2⟩ := hZ.cells
    unfold tkV
    go_wp2
    obtain ⟨e0, e1, e2, e4⟩ := hZ.fin (.int .i64 0) (.string ⟨#[]⟩) (.int .i64 0)
    refine bodyPost_ret (v := .tuple #[tkV ⟨0, [], 0⟩, .iface 181 (.agg #[.int .i64 er])]) (by simp [results, Tryz.results94, go_sem, tkV, e0, e1, e2]) rfl (PostT.bad rfl rfl e4)


set_option maxRecDepth 100000 in
set_option maxHeartbeats 4000000 in
theorem one_no (R : Nat) (s : ByteArray) (p d : Nat) (w : World) (hs : s.size ≤ 1000000) (hp : p < s.size) (hR : RA w R s p d) (hTab : TabR R w) (c : UInt8) (hc : s[p]'hp = c) (hA : assoc (c.toNat : Int) (rdL R) = none) (r : TR)
    (hF : ∀ wx, RA wx R s p d → TabR R wx → Calls Tryz.prog 141 #[.pointer (some ⟨R, 0, none⟩)] wx (PostT R s p r wx)) :
    Calls Tryz.prog 94 #[.pointer (some ⟨R, 0, none⟩)] w (PostT R s p r w) := by
  have HA := hid hA
  clear hA
  have hlt := hR.lt
  have hpi : (p : Int) < (s.size : Int) := by omega
  have hS := Sx.new hR
  go_enter Tryz.func94, Tryz.ntmps94
  go_wp2
  replace hS := hS.below (Below.refl _ _).drew
  refine wp_region_noPanic ?_
  refine wp_region_held_drew (S := (fun w' => w'.cell? ⟨R, 0, none⟩ = some (.string s) ∧ w'.cell? ⟨R, 1, none⟩ = some (.int .i64 p))) (by kernel_rfl) ?_ (fun hHeld => ?_)
  · (try dsimp only); exact ⟨hS.ra.cells.1, hS.ra.cells.2.1⟩
  refine wpAnyH_take (i := 0) (v := ?_) rfl (by kernel_rfl) (by kernel_rfl) (by kernel_rfl) (fun _ _ _ h => h) (Or.inl ⟨by rfl, ?_⟩) hHeld ?_
  rotate_left
  · intro w hSw; (try dsimp only at hSw); (try simp only [List.getElem_toArray, List.getElem_cons_succ, List.getElem_cons_zero]); go_simp; (try with_reducible rfl)
  try simp only [Act.put, List.getElem_toArray, List.getElem_cons_succ, List.getElem_cons_zero, List.setIfInBounds_toArray, List.set_cons_zero, List.set_cons_succ]
  refine wpAnyH_take (i := 2) (v := ?_) rfl (by kernel_rfl) (by kernel_rfl) (by kernel_rfl) (fun _ _ _ h => h) (Or.inl ⟨by rfl, ?_⟩) hHeld ?_
  rotate_left
  · intro w hSw; (try dsimp only at hSw); (try simp only [List.getElem_toArray, List.getElem_cons_succ, List.getElem_cons_zero]); go_simp; (try with_reducible rfl)
  try simp only [Act.put, List.getElem_toArray, List.getElem_cons_succ, List.getElem_cons_zero, List.setIfInBounds_toArray, List.set_cons_zero, List.set_cons_succ]
  refine wpAnyH_take (i := 3) (v := ?_) rfl (by kernel_rfl) (by kernel_rfl) (by kernel_rfl) (fun _ _ _ h => h) (Or.inl ⟨by rfl, ?_⟩) hHeld ?_
  rotate_left
  · intro w hSw; (try dsimp only at hSw); (try simp only [List.getElem_toArray, List.getElem_cons_succ, List.getElem_cons_zero]); go_simp; (try with_reducible rfl)
  try simp only [Act.put, List.getElem_toArray, List.getElem_cons_succ, List.getElem_cons_zero, List.setIfInBounds_toArray, List.set_cons_zero, List.set_cons_succ]
  refine wpAnyH_take (i := 4) (v := ?_) rfl (by kernel_rfl) (by kernel_rfl) (by kernel_rfl) (fun _ _ _ h => h) (Or.inl ⟨by rfl, ?_⟩) hHeld ?_
  rotate_left
  · intro w hSw; (try dsimp only at hSw); (try simp only [List.getElem_toArray, List.getElem_cons_succ, List.getElem_cons_zero]); go_simp; (try with_reducible rfl)
  try simp only [Act.put, List.getElem_toArray, List.getElem_cons_succ, List.getElem_cons_zero, List.setIfInBounds_toArray, List.set_cons_zero, List.set_cons_succ]
  refine wpAnyH_take (i := 5) (v := ?_) rfl (by kernel_rfl) (by kernel_rfl) (by kernel_rfl) (fun _ _ _ h => h) (Or.inl ⟨by rfl, ?_⟩) hHeld ?_
  rotate_left
  · intro w hSw; (try dsimp only at hSw); (try simp only [List.getElem_toArray, List.getElem_cons_succ, List.getElem_cons_zero]); go_simp; (try with_reducible rfl)
  try simp only [Act.put, List.getElem_toArray, List.getElem_cons_succ, List.getElem_cons_zero, List.setIfInBounds_toArray, List.set_cons_zero, List.set_cons_succ]
  refine wpAnyH_take (i := 6) (v := ?_) rfl (by kernel_rfl) (by kernel_rfl) (by kernel_rfl) (fun _ _ _ h => h) (Or.inl ⟨by rfl, ?_⟩) hHeld ?_
  rotate_left
  · intro w hSw; (try dsimp only at hSw); (try simp only [List.getElem_toArray, List.getElem_cons_succ, List.getElem_cons_zero]); go_simp; (try with_reducible rfl)
  try simp only [Act.put, List.getElem_toArray, List.getElem_cons_succ, List.getElem_cons_zero, List.setIfInBounds_toArray, List.set_cons_zero, List.set_cons_succ]
  refine wpAnyH_take (i := 7) (v := ?_) rfl (by kernel_rfl) (by kernel_rfl) (by kernel_rfl) (fun _ _ _ h => h) (Or.inl ⟨by rfl, ?_⟩) hHeld ?_
  rotate_left
  · intro w hSw; (try dsimp only at hSw); (try simp only [List.getElem_toArray, List.getElem_cons_succ, List.getElem_cons_zero]); go_simp; (try with_reducible rfl)
  try simp only [Act.put, List.getElem_toArray, List.getElem_cons_succ, List.getElem_cons_zero, List.setIfInBounds_toArray, List.set_cons_zero, List.set_cons_succ]
  refine wpAnyH_take (i := 8) (v := ?_) rfl (by kernel_rfl) (by kernel_rfl) (by kernel_rfl) (fun _ _ _ h => h) (Or.inl ⟨by rfl, ?_⟩) hHeld ?_
  rotate_left
  · intro w hSw; (try dsimp only at hSw); (try simp only [List.getElem_toArray, List.getElem_cons_succ, List.getElem_cons_zero]); go_simp; (try with_reducible rfl)
  try simp only [Act.put, List.getElem_toArray, List.getElem_cons_succ, List.getElem_cons_zero, List.setIfInBounds_toArray, List.set_cons_zero, List.set_cons_succ]
  refine wpAnyH_take (i := 9) (v := ?_) rfl (by kernel_rfl) (by kernel_rfl) (by kernel_rfl) (fun _ _ _ h => h) (Or.inl ⟨by rfl, ?_⟩) hHeld ?_
  rotate_left
  · intro w hSw; (try dsimp only at hSw); (try simp only [List.getElem_toArray, List.getElem_cons_succ, List.getElem_cons_zero]); go_simp; (try with_reducible rfl)
  try simp only [Act.put, List.getElem_toArray, List.getElem_cons_succ, List.getElem_cons_zero, List.setIfInBounds_toArray, List.set_cons_zero, List.set_cons_succ]
  refine wpAnyH_take (i := 10) (v := ?_) rfl (by kernel_rfl) (by kernel_rfl) (by kernel_rfl) (fun _ _ _ h => h) (Or.inl ⟨by rfl, ?_⟩) hHeld ?_
  rotate_left
  · intro w hSw; (try dsimp only at hSw); (try simp only [List.getElem_toArray, List.getElem_cons_succ, List.getElem_cons_zero]); go_simp; (try with_reducible rfl)
  try simp only [Act.put, List.getElem_toArray, List.getElem_cons_succ, List.getElem_cons_zero, List.setIfInBounds_toArray, List.set_cons_zero, List.set_cons_succ]
  refine wpAnyH_take (i := 11) (v := ?_) rfl (by kernel_rfl) (by kernel_rfl) (by kernel_rfl) (fun _ _ _ h => h) (Or.inl ⟨by rfl, ?_⟩) hHeld ?_
  rotate_left
  · intro w hSw; (try dsimp only at hSw); (try simp only [List.getElem_toArray, List.getElem_cons_succ, List.getElem_cons_zero]); go_simp; (try with_reducible rfl)
  try simp only [Act.put, List.getElem_toArray, List.getElem_cons_succ, List.getElem_cons_zero, List.setIfInBounds_toArray, List.set_cons_zero, List.set_cons_succ]
  refine wpAnyH_take (i := 12) (v := ?_) rfl (by kernel_rfl) (by kernel_rfl) (by kernel_rfl) (fun _ _ _ h => h) (Or.inl ⟨by rfl, ?_⟩) hHeld ?_
  rotate_left
  · intro w hSw; (try dsimp only at hSw); (try simp only [List.getElem_toArray, List.getElem_cons_succ, List.getElem_cons_zero]); go_simp; (try with_reducible rfl)
  try simp only [Act.put, List.getElem_toArray, List.getElem_cons_succ, List.getElem_cons_zero, List.setIfInBounds_toArray, List.set_cons_zero, List.set_cons_succ]
  refine wpAnyH_ready (rs := [1]) (by kernel_rfl) (by simp) ?_
  refine AllReadyH.cons rfl (fun K hK => ?_) AllReadyH.nil
  go_simp
  refine (readers_any R _).mono ?_
  rintro e wz ⟨rfl, hwz⟩
  have hb := below_of_alloc hwz
  replace hS := hS.below hb
  have hMap := look_rd R (c.toNat : Int) wz _ (heap_of_alloc hwz)
  rw [HA.out] at hMap
  (have hz : (((w.alloc (.cells #[.int .i64 0, .string ⟨#[]⟩, .int .i64 0] 39)).drew).heap.size) = w.heap.size + 1 := World.size_alloc _ _)
  try rw [hz] at hMap
  clear hwz hb hz
  try go_wp2_with fail
  refine hK.out _ _ ?_ (fun hHeld2 => ?_)
  · (try dsimp only); exact ⟨hS.ra.cells.1, hS.ra.cells.2.1⟩
  clear hK K hHeld
  have hHeld := hHeld2; clear hHeld2
  try simp only [Act.put, List.getElem_toArray, List.getElem_cons_succ, List.getElem_cons_zero, List.setIfInBounds_toArray, List.set_cons_zero, List.set_cons_succ]
  refine wpAnyH_ready (rs := [13]) (by kernel_rfl) (by simp) ?_
  refine AllReadyH.cons rfl (fun K hK => ?_) AllReadyH.nil
  skip
  go_simp
  refine hK.out _ _ ?_ (fun hHeld2 => ?_)
  · (try dsimp only); exact ⟨hS.ra.cells.1, hS.ra.cells.2.1⟩
  clear hK K hHeld
  have hHeld := hHeld2; clear hHeld2
  try simp only [Act.put, List.getElem_toArray, List.getElem_cons_succ, List.getElem_cons_zero, List.setIfInBounds_toArray, List.set_cons_zero, List.set_cons_succ]
  refine wpAnyH_take (i := 14) (v := ?_) rfl (by kernel_rfl) (by kernel_rfl) (by kernel_rfl) (fun _ _ _ h => h) (Or.inl ⟨by rfl, ?_⟩) hHeld ?_
  rotate_left
  · intro w hSw; (try dsimp only at hSw); (try simp only [List.getElem_toArray, List.getElem_cons_succ, List.getElem_cons_zero]); go_simp; (try with_reducible rfl)
  try simp only [Act.put, List.getElem_toArray, List.getElem_cons_succ, List.getElem_cons_zero, List.setIfInBounds_toArray, List.set_cons_zero, List.set_cons_succ]
  refine wpAnyH_take (i := 15) (v := ?_) rfl (by kernel_rfl) (by kernel_rfl) (by kernel_rfl) (fun _ _ _ h => h) (Or.inl ⟨by rfl, ?_⟩) hHeld ?_
  rotate_left
  · intro w hSw; (try dsimp only at hSw); (try simp only [List.getElem_toArray, List.getElem_cons_succ, List.getElem_cons_zero]); go_simp; (try with_reducible rfl)
  try simp only [Act.put, List.getElem_toArray, List.getElem_cons_succ, List.getElem_cons_zero, List.setIfInBounds_toArray, List.set_cons_zero, List.set_cons_succ]
  refine wpAnyH_take (i := 16) (v := ?_) rfl (by kernel_rfl) (by kernel_rfl) (by kernel_rfl) (fun _ _ _ h => h) (Or.inl ⟨by rfl, ?_⟩) hHeld ?_
  rotate_left
  · intro w hSw; (try dsimp only at hSw); (try simp only [List.getElem_toArray, List.getElem_cons_succ, List.getElem_cons_zero]); go_simp; (try with_reducible rfl)
  try simp only [Act.put, List.getElem_toArray, List.getElem_cons_succ, List.getElem_cons_zero, List.setIfInBounds_toArray, List.set_cons_zero, List.set_cons_succ]
  refine wpAnyH_take (i := 17) (v := ?_) rfl (by kernel_rfl) (by kernel_rfl) (by kernel_rfl) (fun _ _ _ h => h) (Or.inl ⟨by rfl, ?_⟩) hHeld ?_
  rotate_left
  · intro w hSw; (try dsimp only at hSw); (try simp only [List.getElem_toArray, List.getElem_cons_succ, List.getElem_cons_zero]); go_simp; (try with_reducible rfl)
  try simp only [Act.put, List.getElem_toArray, List.getElem_cons_succ, List.getElem_cons_zero, List.setIfInBounds_toArray, List.set_cons_zero, List.set_cons_succ]
  refine wpAnyH_take (i := 18) (v := ?_) rfl (by kernel_rfl) (by kernel_rfl) (by kernel_rfl) (fun _ _ _ h => h) (Or.inl ⟨by rfl, ?_⟩) hHeld ?_
  rotate_left
  · intro w hSw; (try dsimp only at hSw); (try simp only [List.getElem_toArray, List.getElem_cons_succ, List.getElem_cons_zero]); go_simp; (try with_reducible rfl)
  try simp only [Act.put, List.getElem_toArray, List.getElem_cons_succ, List.getElem_cons_zero, List.setIfInBounds_toArray, List.set_cons_zero, List.set_cons_succ]
  refine wpAnyH_done (by kernel_rfl) ?_ _
  refine NoPanic.normal ?_
  clear hMap
  go_wp2_with fail
  refine (hF _ hS.ra (hTab.mod hS.md)).mono ?_
  rintro e w2 hQ
  clear hF
  cases r with
  | ok k t q d' =>
    obtain ⟨rfl, hr2, hm2⟩ := hQ
    replace hS := hS.mod hlt hr2 hm2
    clear hr2 hm2
    obtain ⟨n0, n1, n2, g0, g1, g2⟩ := hS.cells
    unfold tkV
    go_wp2
    obtain ⟨e0, e1, e2, e3, e4⟩ := hS.fin hlt (.int .i64 k) (.string ⟨t.toArray⟩) (.int .i64 p)
    refine bodyPost_ret (v := .tuple #[tkV ⟨k, t, p⟩, .nilIface]) (by simp [results, Tryz.results94, go_sem, tkV, e0, e1, e2]) rfl (PostT.ok rfl rfl e3 e4)
  | bad er =>
    obtain ⟨rfl, hm2⟩ := hQ
    have hZ := hS.sz hlt hm2
    clear hS hm2
    obtain ⟨n0, n1, n2, g0, g1, g2⟩ := hZ.cells
    unfold tkV
    go_wp2
    obtain ⟨e0, e1, e2, e4⟩ := hZ.fin (.int .i64 0) (.string ⟨#[]⟩) (.int .i64 0)
    refine bodyPost_ret (v := .tuple #[tkV ⟨0, [], 0⟩, .iface 181 (.agg #[.int .i64 er])]) (by simp [results, Tryz.results94, go_sem, tkV, e0, e1, e2]) rfl (PostT.bad rfl rfl e4)

end Go.Proofs.YtiinnnbpbnojgaaGreatDoor
