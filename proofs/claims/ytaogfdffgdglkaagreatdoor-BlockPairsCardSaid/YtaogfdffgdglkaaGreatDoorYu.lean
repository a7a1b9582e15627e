/- What is proved: a part of the walk of the program and of its plain laws; no condition beside those that each theorem names. -/
import Derived.Test.YtaogfdffgdglkaaGreatDoorYa
import Derived.Test.YtaogfdffgdglkaaGreatDoorYt
namespace Go.Proofs.YtaogfdffgdglkaaGreatDoor
open Go Go.RowKit Go.Lib
set_option linter.unusedSimpArgs false
set_option linter.unusedVariables false
section
set_option maxRecDepth 100000
set_option maxHeartbeats 4000000
theorem Fq {w w' : World} {o : Obj} (h : w' = w.alloc o) : Below w.heap.size w w' := by rw [h]; exact (Bq _ _).alloc Nr _
theorem FS {w w' : World} {o : Obj} (h : w' = w.alloc o) : w'.heap[w.heap.size]? = some o := by rw [h]; exact Wn _ _
abbrev IG (R f : Nat) : Value := .iface 196 (.func (.func f) #[.pointer (some ⟨R, 0, none⟩)] #[])
def PG (R : Nat) : List (Int × Value) := [(34, (IG R 156)), (39, (IG R 156)), (38, (IG R 157)), (42, (IG R 157)), (45, (IG R 158)), (58, (IG R 159)), (91, (IG R 160)), (123, (IG R 160)), (44, (IG R 161)), (93, (IG R 161)), (125, (IG R 161))]
def JL (R k : Nat) : Obj := CQ Io ((PG R).take k)
theorem BQ (R : Nat) (w : World) (k : Nat) (a : Int) (v : Value) (h : BH a ((PG R).take k) = none) (hk : (PG R).take (k + 1) = (PG R).take k ++ [(a, v)]) :
  (Instr.mapUpdate 243 (.map (some w.heap.size)) (.int .u8 a) v).run Tryz.prog (w.alloc (JL R k)) = .ok () (w.alloc (JL R (k + 1))) := by
 unfold JL
 rw [hk]
 have := D6 (P := Tryz.prog) (enc := Io) Pi Lm (t := 243) (k := 5) (e := 20) (w := w.alloc (CQ Io ((PG R).take k))) (l := (PG R).take k) Tryz.underlying243 Tryz.underlying5 (Wn w _) a v h
 rw [E1] at this
 exact this
theorem Pw (R : Nat) (c : Int) (w : World) (b : Nat) (hb : w.heap[b]? = some (JL R 11)) :
  (Instr.lookup 243 (.map (some b)) (.int .u8 c) true).run Tryz.prog w = .ok (.tuple #[(BH c (PG R)).getD .nilIface, .bool (BH c (PG R)).isSome]) w :=
 D2 (P := Tryz.prog) (enc := Io) Pi Lm (k := 5) (e := 20) (l := PG R) (z := .nilIface) Tryz.underlying243 Tryz.underlying5 (by kernel_rfl) hb c true
theorem H2 (R : Nat) (w : World) :
  Calls Tryz.prog 132 #[.pointer (some ⟨R, 0, none⟩)] w fun e w' => e = .returned (.map (some w.heap.size)) /\ w' = w.alloc (JL R 11) := by
 have hmm := @run_makeMap Tryz.prog
 have h0 := BQ R w 0 34 (IG R 156) (by rfl) rfl
 rw [show JL R 0 = .map #[] 0 from rfl] at h0
 have h1 := BQ R w 1 39 (IG R 156) (by rfl) rfl
 have h2 := BQ R w 2 38 (IG R 157) (by rfl) rfl
 have h3 := BQ R w 3 42 (IG R 157) (by rfl) rfl
 have h4 := BQ R w 4 45 (IG R 158) (by rfl) rfl
 have h5 := BQ R w 5 58 (IG R 159) (by rfl) rfl
 have h6 := BQ R w 6 91 (IG R 160) (by rfl) rfl
 have h7 := BQ R w 7 123 (IG R 160) (by rfl) rfl
 have h8 := BQ R w 8 44 (IG R 161) (by rfl) rfl
 have h9 := BQ R w 9 93 (IG R 161) (by rfl) rfl
 have h10 := BQ R w 10 125 (IG R 161) (by rfl) rfl
 go_enter Tryz.func132, Tryz.ntmps132
 go_wp2
 go_ret
 exact ⟨rfl, rfl⟩
theorem PW (v : Value) (w : World) : (Instr.typeAssert (.iface 196 v) 20 196 false).run Tryz.prog w = .ok v w := by kernel_rfl
theorem Hl (f : Nat) (eg : ∀ args w, (callFunc f args).run Tryz.prog w = .ok (.enter f args) w) (R : Nat) (s : ByteArray) (p d : Nat) (w : World) (hs : s.size <= 1000000) (hp : p < s.size) (hR : RA w R s p d) (hTab : Fi R w) (c : UInt8) (hc : s[p]'hp = c) (hA : BH (c.toNat : Int) (PG R) = some (IG R f)) (r : TR)
  (hF : ∀ wx, RA wx R s p d -> Fi R wx -> Calls Tryz.prog f #[.pointer (some ⟨R, 0, none⟩)] wx (AG R s p r wx)) :
  Calls Tryz.prog 105 #[.pointer (some ⟨R, 0, none⟩)] w (AG R s p r w) := by
 have HA := hid hA
 clear hA
 have hlt := hR.lt
 have hta := PW
 have hpi : (p : Int) < (s.size : Int) := by omega
 have hS := Sx.new hR
 go_enter Tryz.func105, Tryz.ntmps105
 go_wp2
 replace hS := hS.below (Bq _ _).drew
 refine wp_region_noPanic ?_
 refine wR 19 (S := (fun w' => w'.cell? ⟨R, 0, none⟩ = some (.string s) /\ w'.cell? ⟨R, 1, none⟩ = some (.int .i64 p))) rfl ?_ (fun hHeld => ?_)
 ·(try dsimp only); exact ⟨hS.ra.cells.1, hS.ra.cells.2.1⟩
 simp only [gR]
 refine wN hHeld ?_; try simp only [gS]
 refine wI 2 hHeld ?_; try simp only [gS]
 refine wI 3 hHeld ?_; try simp only [gS]
 refine wI 4 hHeld ?_; try simp only [gS]
 refine wI 5 hHeld ?_; try simp only [gS]
 refine wI 6 hHeld ?_; try simp only [gS]
 refine wI 7 hHeld ?_; try simp only [gS]
 refine wI 8 hHeld ?_; try simp only [gS]
 refine wI 9 hHeld ?_; try simp only [gS]
 refine wI 10 hHeld ?_; try simp only [gS]
 refine wI 11 hHeld ?_; try simp only [gS]
 refine wI 12 hHeld ?_; try simp only [gS]
 refine wB 1 rfl (fun K hK => ?_)
 go_simp
 refine (H2 R _).mono ?_
 rintro e wz ⟨rfl, hwz⟩
 have hb := Fq hwz
 replace hS := hS.below hb
 have hMap := Pw R (c.toNat : Int) wz _ (FS hwz)
 rw [HA.out] at hMap
 (have hz : (((w.alloc (.cells #[.int .i64 0, .string ⟨#[]⟩, .int .i64 0] 116)).drew).heap.size) = w.heap.size + 1 := World.size_alloc _ _)
 try rw [hz] at hMap
 clear hwz hb hz
 try go_wp2_with fail
 refine hK.out _ _ ?_ (fun hHeld2 => ?_)
 ·(try dsimp only); exact ⟨hS.ra.cells.1, hS.ra.cells.2.1⟩
 clear hK K hHeld
 have hHeld := hHeld2; clear hHeld2
 try simp only [gS]
 refine wB 13 rfl (fun K hK => ?_)
 skip
 go_simp
 refine hK.out _ _ ?_ (fun hHeld2 => ?_)
 ·(try dsimp only); exact ⟨hS.ra.cells.1, hS.ra.cells.2.1⟩
 clear hK K hHeld
 have hHeld := hHeld2; clear hHeld2
 try simp only [gS]
 iterate 5 (refine wN hHeld ?_; try simp only [gS])
 refine wpAnyH_done (by kernel_rfl) ?_ _
 refine NoPanic.normal ?_
 clear hMap
 go_wp2_with fail
 refine (hF _ hS.ra (hTab.mod hS.md)).mono ?_
 rintro e w2 hQ
 clear hF
 cases r with
 | ok k t q d' =>
  obtain ⟨rfl, hr2, hm2⟩ := hQ
  replace hS := hS.mod hlt hr2 hm2
  clear hr2 hm2
  obtain ⟨n0, n1, n2, g0, g1, g2⟩ := hS.cells
  unfold BP
  go_wp2
  obtain ⟨e0, e1, e2, e3, e4⟩ := hS.fin hlt (.int .i64 k) (.string ⟨t.toArray⟩) (.int .i64 p)
  refine bodyPost_ret (v := .tuple #[BP ⟨k, t, p⟩, .nilIface]) (by simp [results, Tryz.results105, go_sem, BP, e0, e1, e2]) rfl (AG.ok rfl rfl e3 e4)
 | bad er =>
  obtain ⟨rfl, hm2⟩ := hQ
  have hZ := hS.sz hlt hm2
  clear hS hm2
  obtain ⟨n0, n1, n2, g0, g1, g2⟩ := hZ.cells
  unfold BP
  go_wp2
  obtain ⟨e0, e1, e2, e4⟩ := hZ.fin (.int .i64 0) (.string ⟨#[]⟩) (.int .i64 0)
  refine bodyPost_ret (v := .tuple #[BP ⟨0, [], 0⟩, .iface 198 (.agg #[.int .i64 er])]) (by simp [results, Tryz.results105, go_sem, BP, e0, e1, e2]) rfl (AG.bad rfl rfl e4)
theorem Vh (R : Nat) (s : ByteArray) (p d : Nat) (w : World) (hs : s.size <= 1000000) (hp : p < s.size) (hR : RA w R s p d) (hTab : Fi R w) (c : UInt8) (hc : s[p]'hp = c) (hA : BH (c.toNat : Int) (PG R) = none) (r : TR)
  (hF : ∀ wx, RA wx R s p d -> Fi R wx -> Calls Tryz.prog 133 #[.pointer (some ⟨R, 0, none⟩)] wx (AG R s p r wx)) :
  Calls Tryz.prog 105 #[.pointer (some ⟨R, 0, none⟩)] w (AG R s p r w) := by
 have HA := hid hA
 clear hA
 have hlt := hR.lt
 have hpi : (p : Int) < (s.size : Int) := by omega
 have hS := Sx.new hR
 go_enter Tryz.func105, Tryz.ntmps105
 go_wp2
 replace hS := hS.below (Bq _ _).drew
 refine wp_region_noPanic ?_
 refine wR 19 (S := (fun w' => w'.cell? ⟨R, 0, none⟩ = some (.string s) /\ w'.cell? ⟨R, 1, none⟩ = some (.int .i64 p))) rfl ?_ (fun hHeld => ?_)
 ·(try dsimp only); exact ⟨hS.ra.cells.1, hS.ra.cells.2.1⟩
 simp only [gR]
 refine wN hHeld ?_; try simp only [gS]
 refine wI 2 hHeld ?_; try simp only [gS]
 refine wI 3 hHeld ?_; try simp only [gS]
 refine wI 4 hHeld ?_; try simp only [gS]
 refine wI 5 hHeld ?_; try simp only [gS]
 refine wI 6 hHeld ?_; try simp only [gS]
 refine wI 7 hHeld ?_; try simp only [gS]
 refine wI 8 hHeld ?_; try simp only [gS]
 refine wI 9 hHeld ?_; try simp only [gS]
 refine wI 10 hHeld ?_; try simp only [gS]
 refine wI 11 hHeld ?_; try simp only [gS]
 refine wI 12 hHeld ?_; try simp only [gS]
 refine wB 1 rfl (fun K hK => ?_)
 go_simp
 refine (H2 R _).mono ?_
 rintro e wz ⟨rfl, hwz⟩
 have hb := Fq hwz
 replace hS := hS.below hb
 have hMap := Pw R (c.toNat : Int) wz _ (FS hwz)
 rw [HA.out] at hMap
 (have hz : (((w.alloc (.cells #[.int .i64 0, .string ⟨#[]⟩, .int .i64 0] 116)).drew).heap.size) = w.heap.size + 1 := World.size_alloc _ _)
 try rw [hz] at hMap
 clear hwz hb hz
 try go_wp2_with fail
 refine hK.out _ _ ?_ (fun hHeld2 => ?_)
 ·(try dsimp only); exact ⟨hS.ra.cells.1, hS.ra.cells.2.1⟩
 clear hK K hHeld
 have hHeld := hHeld2; clear hHeld2
 try simp only [gS]
 refine wB 13 rfl (fun K hK => ?_)
 skip
 go_simp
 refine hK.out _ _ ?_ (fun hHeld2 => ?_)
 ·(try dsimp only); exact ⟨hS.ra.cells.1, hS.ra.cells.2.1⟩
 clear hK K hHeld
 have hHeld := hHeld2; clear hHeld2
 try simp only [gS]
 iterate 5 (refine wN hHeld ?_; try simp only [gS])
 refine wpAnyH_done (by kernel_rfl) ?_ _
 refine NoPanic.normal ?_
 clear hMap
 go_wp2_with fail
 refine (hF _ hS.ra (hTab.mod hS.md)).mono ?_
 rintro e w2 hQ
 clear hF
 cases r with
 | ok k t q d' =>
  obtain ⟨rfl, hr2, hm2⟩ := hQ
  replace hS := hS.mod hlt hr2 hm2
  clear hr2 hm2
  obtain ⟨n0, n1, n2, g0, g1, g2⟩ := hS.cells
  unfold BP
  go_wp2
  obtain ⟨e0, e1, e2, e3, e4⟩ := hS.fin hlt (.int .i64 k) (.string ⟨t.toArray⟩) (.int .i64 p)
  refine bodyPost_ret (v := .tuple #[BP ⟨k, t, p⟩, .nilIface]) (by simp [results, Tryz.results105, go_sem, BP, e0, e1, e2]) rfl (AG.ok rfl rfl e3 e4)
 | bad er =>
  obtain ⟨rfl, hm2⟩ := hQ
  have hZ := hS.sz hlt hm2
  clear hS hm2
  obtain ⟨n0, n1, n2, g0, g1, g2⟩ := hZ.cells
  unfold BP
  go_wp2
  obtain ⟨e0, e1, e2, e4⟩ := hZ.fin (.int .i64 0) (.string ⟨#[]⟩) (.int .i64 0)
  refine bodyPost_ret (v := .tuple #[BP ⟨0, [], 0⟩, .iface 198 (.agg #[.int .i64 er])]) (by simp [results, Tryz.results105, go_sem, BP, e0, e1, e2]) rfl (AG.bad rfl rfl e4)
end
section
open Go Go.RowKit
def Um {α : Type} (bad : List α -> Prop) (P : Program) (gf : Nat) (lb : Array Value) (encs : α -> Array Value) (C : Nat -> Prop) (n₀ : Nat) (xs : List α) (St : World -> Prop) : Prop :=
 ∀ (l : Nat) (J Jx : List α -> World -> Prop) (W : World), St W -> (∀ s X Y, J s X -> Af C W.heap.size X Y -> J s Y) -> (∀ s X Y, Jx s X -> Af C W.heap.size X Y -> Jx s Y) -> (∀ s X, bad s -> ¬ J s X) →
  (∀ pre x W1, J pre W1 -> pre ++ [x] <+: xs -> YieldAt Fence.wide 0 P l (encs x) W1 fun e W' =>
   (e = .returned (.bool true) /\ J (pre ++ [x]) W' /\ Ag Obj.isWalk C n₀ W1 W') \/ (e = .returned (.bool false) /\ Jx (pre ++ [x]) W' /\ Ag Obj.isWalk C n₀ W1 W')) →
  J [] W →
  CallsIn Fence.wide 0 P gf (#[.func (.yield l) #[] #[]] ++ lb) W fun e W' => (∃ v, e = .returned v) /\ (J xs W' \/ ∃ pre, pre <+: xs /\ Jx pre W')
variable {P : Program}
theorem Jk {α : Type} {bad : List α -> Prop} {g : Operand} {ps : Array Tmp} {assign body : Code} {Q : Exit -> Act -> World -> Prop} {a : Act} {w : World}
  {gf : Nat} {lb : Array Value} (hg : a.eval g = .func (.func gf) #[] lb) (eg : ∀ args w, (callFunc gf args).run P w = .ok (.enter gf args) w)
  {encs : α -> Array Value} {C : Nat -> Prop} {n₀ : Nat} {xs : List α} {St : World -> Prop} (hseq : Um bad P gf lb encs C n₀ xs St)
  (hst : ∀ Y, Below w.heap.size w Y -> St Y) (hC : ∀ k, C k -> k < w.heap.size) (hn : n₀ <= w.heap.size) (hps : ∀ x, (encs x).size = ps.size)
  (I : List α -> World -> Prop) (Ix : Code -> List α -> World -> Prop) (hI : ∀ s X Y, I s X -> Af C w.heap.size X Y -> I s Y) (hIx : ∀ c s X Y, Ix c s X -> Af C w.heap.size X Y -> Ix c s Y) (hbad : ∀ s X, bad s -> ¬ I s X) (h0 : I [] w)
  (hround : ∀ (l : Nat) (pre : List α) (x : α) (W : World), w.heap.size <= l -> I pre W -> pre ++ [x] <+: xs →
   assign.wpIn (Fence.wide.inRound l) 0 P (Exit.then (fun a' W' => Ag Av C n₀ W W' /\ ∀ Wb, Af C w.heap.size W' Wb -> (∃ r, Wb.heap[l]? = some (.loop r)) -> body.wpIn (Fence.wide.inRound l) 0 P (RH C n₀ I Ix (pre ++ [x]) Wb) a' Wb) (fun _ _ _ => False))
    { tmps := (ps.zip (encs x)).foldl (fun t (p, v) => t.setIfInBounds p v) a.tmps, defers := [] } W)
  (hdone : ∀ (D : Nat) (W : World), w.heap.size <= D -> I xs W -> W.heap[D]? = some (.deferred (some [])) -> Q .normal { a with defers := { target := .collected D, args := #[] } :: a.defers } W)
  (hstop : ∀ (D : Nat) (c : Code) (pre : List α) (W : World), w.heap.size <= D -> pre <+: xs -> Ix c pre W -> W.heap[D]? = some (.deferred (some [])) -> c.wpIn Fence.wide 0 P Q { a with defers := { target := .collected D, args := #[] } :: a.defers } W) :
  (Code.rangeFunc g ps assign body).wpIn Fence.wide 0 P Q a w := by
 refine wpIn_rangeFunc (fun fn hfn => ?_)
 obtain ⟨rec, hrec⟩ : ∃ rec : LoopState -> Option Code -> Loop, rec = fun st pe => { state := st, pending := pe, fn, tmps := a.tmps, params := ps, assign, body, defers := w.heap.size } := ⟨_, rfl⟩
 obtain ⟨W1, hW1⟩ : ∃ W1, (w.alloc (.deferred (some []))).alloc (.loop (rec .ready none)) = W1 := ⟨_, rfl⟩
 have hz1 : W1.heap.size = w.heap.size + 1 + 1 := by rw [<- hW1]; simp
 have hL1 : W1.heap[w.heap.size + 1]? = some (.loop (rec .ready none)) := by
  rw [<- hW1]; have := Wn (w.alloc (.deferred (some []))) (.loop (rec .ready none)); rwa [World.size_alloc] at this
 have hD1 : W1.heap[w.heap.size]? = some (.deferred (some [])) := by
  rw [<- hW1]; exact (Below.heap_alloc _ _ _ (by simp)).trans (Wn w _)
 have hB1 : Below w.heap.size w W1 := by
  rw [<- hW1]; exact ((Bq _ w).alloc Nr _).alloc (by simp) _
 have hI1 : I [] W1 := by rw [<- hW1]; exact hI _ _ _ (hI _ _ _ h0 (Af.alloc _ _)) (Af.alloc _ _)
 have hCl : ¬ C (w.heap.size + 1) := fun h => by have := hC _ h; omega
 have hCD : ¬ C w.heap.size := fun h => by have := hC _ h; omega
 refine ⟨w.heap.size + 1, [{ target := .collected w.heap.size, args := #[] }], W1, { target := .fn (.func gf) lb, args := #[.func (.yield (w.heap.size + 1)) #[] #[]] }, W1, gf,
  #[.func (.yield (w.heap.size + 1)) #[] #[]] ++ lb, W1, ?_, ?_, ?_, ?_, fun h => by simp [Fence.wide] at h, ?_⟩
 ·rw [<- hW1, hrec]; exact run_enterLoop_outer _ _ _ _ _
 ·simp only [resolve, hg]
  simp [go_sem]
 ·intro f' _; trivial
 ·simp [invoke, go_sem, eg]
 refine (hseq (w.heap.size + 1)
  (fun pre W => I pre W /\ W.heap[w.heap.size + 1]? = some (.loop (rec .ready none)) /\ W.heap[w.heap.size]? = some (.deferred (some [])))
  (fun pre W => ∃ c, Ix c pre W /\ W.heap[w.heap.size + 1]? = some (.loop (rec .done (some c))) /\ W.heap[w.heap.size]? = some (.deferred (some [])))
  W1 (hst _ hB1)
  (fun s X Y hs ht => ⟨hI _ _ _ hs.1 (ht.mono (by omega)), ht.old hs.2.1 hCl (by omega), ht.old hs.2.2 hCD (by omega)⟩)
  (fun s X Y hs ht => by
   obtain ⟨c, hc, hl, hk⟩ := hs
   exact ⟨c, hIx _ _ _ _ hc (ht.mono (by omega)), ht.old hl hCl (by omega), ht.old hk hCD (by omega)⟩)
  (fun s X hb hj => hbad s X hb hj.1) ?_ ⟨hI1, hL1, hD1⟩).mono ?_
 ·rintro pre x W ⟨hi, hl, hk⟩ hpre
  have hy := run_yield (P := P) (args := encs x) hl (by rw [hrec]; exact hps x)
  rw [hrec] at hy
  refine ⟨fn, _, assign, body, hy, roundIn_of_wpIn hfn (wpIn_mono (hround _ pre x W (by omega) hi hpre) ?_)⟩
  clear hy
  intro e0 a' Wa he0
  cases e0 with
  | normal => ?_
  | _ => exact he0.elim
  obtain ⟨hka, hbd⟩ := he0
  have hla : Wa.heap[w.heap.size + 1]? = some (.loop (rec .ready none)) := hka.heap hl (.inr (.inr rfl))
  have hDa : Wa.heap[w.heap.size]? = some (.deferred (some [])) := hka.heap hk (.inr (.inr rfl))
  have hlt : w.heap.size + 1 < Wa.heap.size := (Gl hla)
  refine ⟨_, run_beginRound hla (by rw [hrec]), ?_⟩
  obtain ⟨Wb, hWb⟩ : ∃ Wb, Wa.putObj (w.heap.size + 1) (.loop { rec .ready none with state := .busy }) = Wb := ⟨_, rfl⟩
  have hl2 : Wb.heap[w.heap.size + 1]? = some (.loop { rec .ready none with state := .busy }) := by rw [<- hWb]; exact World.putObj_heap_same hlt
  have hD2 : Wb.heap[w.heap.size]? = some (.deferred (some [])) := by rw [<- hWb]; exact (World.putObj_heap_other (by omega)).trans hDa
  have hk2 : Ag Obj.isWalk C n₀ Wa Wb := by rw [<- hWb]; exact Ag.putObj _ hla (by omega) hCl rfl
  have hta : Af C w.heap.size Wa Wb := by rw [<- hWb]; exact Af.putObj _ hla (by omega) rfl
  rw [hWb]
  refine wpIn_mono (hbd Wb hta ⟨_, hl2⟩) ?_
  have fin : ∀ (jump : Option Code) (W3 : World), Ag Av C n₀ Wb W3 →
    (Instr.endRound (w.heap.size + 1) jump).run P W3 = .ok (.bool jump.isNone) (W3.putObj (w.heap.size + 1) (.loop (rec (if jump.isNone then .ready else .done) jump))) ∧
    (W3.putObj (w.heap.size + 1) (.loop (rec (if jump.isNone then .ready else .done) jump))).heap[w.heap.size + 1]? = some (.loop (rec (if jump.isNone then .ready else .done) jump)) ∧
    (W3.putObj (w.heap.size + 1) (.loop (rec (if jump.isNone then .ready else .done) jump))).heap[w.heap.size]? = some (.deferred (some [])) ∧
    Af C w.heap.size W3 (W3.putObj (w.heap.size + 1) (.loop (rec (if jump.isNone then .ready else .done) jump))) ∧
    Ag Obj.isWalk C n₀ W3 (W3.putObj (w.heap.size + 1) (.loop (rec (if jump.isNone then .ready else .done) jump))) := fun jump W3 hk3 => by
   have hl3 : W3.heap[w.heap.size + 1]? = some (.loop { rec .ready none with state := .busy }) := hk3.heap hl2 (.inr (.inr rfl))
   have hD3 : W3.heap[w.heap.size]? = some (.deferred (some [])) := hk3.heap hD2 (.inr (.inr rfl))
   have hr := run_endRound (P := P) jump hl3
   rw [hrec] at hr |-
   exact ⟨hr, World.putObj_heap_same (Gl hl3), (World.putObj_heap_other (by omega)).trans hD3, Af.putObj _ hl3 (by omega) rfl, Ag.putObj _ hl3 (by omega) hCl rfl⟩
  rintro e a3 W3 hp
  cases e with
  | normal =>
   obtain ⟨hr, hl4, hD4, ht4, hk4⟩ := fin none W3 hp.1
   exact ⟨_, _, hr, .inl ⟨rfl, ⟨hI _ _ _ hp.2 ht4, hl4, hD4⟩, ((hka.walks.trans hk2).trans hp.1.walks).trans hk4⟩⟩
  | ret =>
   obtain ⟨hr, hl4, hD4, ht4, hk4⟩ := fin (some .ret) W3 hp.1
   exact ⟨_, _, hr, .inr ⟨rfl, ⟨.ret, hIx _ _ _ _ hp.2 ht4, hl4, hD4⟩, ((hka.walks.trans hk2).trans hp.1.walks).trans hk4⟩⟩
  | exit id =>
   obtain ⟨hr, hl4, hD4, ht4, hk4⟩ := fin (some (.exit id)) W3 hp.1
   exact ⟨_, _, hr, .inr ⟨rfl, ⟨.exit id, hIx _ _ _ _ hp.2 ht4, hl4, hD4⟩, ((hka.walks.trans hk2).trans hp.1.walks).trans hk4⟩⟩
  | goto t =>
   obtain ⟨hr, hl4, hD4, ht4, hk4⟩ := fin (some (.goto t)) W3 hp.1
   exact ⟨_, _, hr, .inr ⟨rfl, ⟨.goto t, hIx _ _ _ _ hp.2 ht4, hl4, hD4⟩, ((hka.walks.trans hk2).trans hp.1.walks).trans hk4⟩⟩
  | panic ch => exact hp.elim
  | outgrown => exact hp.elim
 ·rintro e W2 ⟨⟨v, rfl⟩, (⟨hi, hl, hk⟩ | ⟨pre, hpre, c, hi, hl, hk⟩)⟩
  ·refine ⟨none, _, by have := run_endLoop (P := P) hl (by rw [hrec]; simp); rw [hrec] at this; exact this, hdone _ _ Nr (hI _ _ _ hi (Af.putObj _ hl (by omega) rfl)) ((World.putObj_heap_other (by omega)).trans hk)⟩
  ·refine ⟨some c, _, by have := run_endLoop (P := P) hl (by rw [hrec]; simp); rw [hrec] at this; exact this, hstop _ c pre _ Nr hpre (hIx _ _ _ _ hi (Af.putObj _ hl (by omega) rfl)) ((World.putObj_heap_other (by omega)).trans hk)⟩
end
end Go.Proofs.YtaogfdffgdglkaaGreatDoor
