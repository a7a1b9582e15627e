/- What is proved: a part of the walk of the program and of its plain laws; no condition beside those that each theorem names. -/
import Derived.Test.YtaogfdffgdglkaaGreatDoorYxa
import Derived.Test.YtaogfdffgdglkaaGreatDoorYxb
import Derived.Test.YtaogfdffgdglkaaGreatDoorYa
namespace Go.Proofs.YtaogfdffgdglkaaGreatDoor
open Go Go.RowKit Go.Lib
set_option linter.unusedSimpArgs false
set_option linter.unusedVariables false
section
set_option maxRecDepth 100000
set_option maxHeartbeats 4000000
def Pa (t : Tr) : Prop := ∀ (tv : Value) (S : Nat -> Prop) (w : World), Ao w S t tv -> Sm 1000000 t -> Ak t <= 1000 →
 Calls Tryz.prog 18 #[tv] w fun e w' => e = .returned (.int .i64 (Ak t)) /\ Below w.heap.size w w'
theorem F7 : ∀ (ts : List Tr) (k : Nat), k < ts.length -> Ak.deepTs (ts.take (k + 1)) = max (Ak.deepTs (ts.take k)) (Ak (ts.getD k CL))
 | [], k, h => by simp at h
 | t :: r, 0, _ => by simp [AM, AY]
 | t :: r, k + 1, h => by
  have := F7 r k (by simpa using h)
  rw [List.take_succ_cons, List.take_succ_cons, AM, AM, this]
  simp only [List.getD_cons_succ]
  omega
theorem F0 : ∀ (ts : List Tr) (k : Nat), k < ts.length -> Ak (ts.getD k CL) <= Ak.deepTs ts
 | [], k, h => by simp at h
 | t :: r, 0, _ => by rw [AM]; simp; omega
 | t :: r, k + 1, h => by
  have := F0 r k (by simpa using h)
  rw [AM]
  simp only [List.getD_cons_succ]
  omega
theorem PB (k0 : Int) (nm : ByteArray) (x : Sc) (ks : List Sc) (ts : List Tr) (hkids : ∀ i, i < ts.length -> Pa (ts.getD i CL)) : Pa (.mk k0 nm x ks ts) := by
 intro tv S w h hsm hdp
 rw [Ao] at h
 unfold Sm at hsm
 obtain ⟨hks, hts, hsm⟩ := hsm
 have hdd : Ak (.mk k0 nm x ks ts) = Ak.deepTs ts + 1 := by rw [Ak]
 rw [hdd] at hdp |-
 obtain ⟨kv, A, ca, rfl, hk1, _, ht⟩ := h
 obtain ⟨KA, kc, rfl, _⟩ := id hk1
 obtain ⟨xk, xn, xs⟩ := x
 dsimp only
 have hK : ∀ k, k < ts.length -> ∃ (a o : Nat) (tv : Value), A = some ⟨a, o, none⟩ /\ (∃ (kd : Int) (nm : ByteArray) (xk xn : Int) (xs : ByteArray) (KA : Option Addr) (kl kc : Nat) (A : Option Addr) (l c : Nat),
   tv = .agg #[.int .i64 kd, .string nm, .int .i64 xk, .int .i64 xn, .string xs, .slice KA kl kc, .slice A l c] /\ w.cell? ⟨a, o + k * 7, none⟩ = some (.int .i64 kd) /\ w.cell? ⟨a, o + k * 7 + 1, none⟩ = some (.string nm) /\ w.cell? ⟨a, o + k * 7 + 2, none⟩ = some (.int .i64 xk) ∧
   w.cell? ⟨a, o + k * 7 + 3, none⟩ = some (.int .i64 xn) /\ w.cell? ⟨a, o + k * 7 + 4, none⟩ = some (.string xs) /\ w.cell? ⟨a, o + k * 7 + 5, none⟩ = some (.slice KA kl kc) /\ w.cell? ⟨a, o + k * 7 + 6, none⟩ = some (.slice A l c)) ∧
   ∀ W, Below w.heap.size w W -> Calls Tryz.prog 18 #[tv] W fun e w' => e = .returned (.int .i64 (Ak (ts.getD k CL))) /\ Below W.heap.size W w' := fun k hk => by
  obtain ⟨a, o, tv, e1, h1, t1⟩ := I4 ts 0 k hk ht
  rw [Nat.zero_add] at h1
  exact ⟨a, o, tv, e1, h1.form t1, fun W hW => hkids k hk tv S W (t1.below hW) (Lj ts k hk hsm) (by have := F0 ts k hk; omega)⟩
 obtain ⟨n, hn⟩ : ∃ n, ts.length = n := ⟨_, rfl⟩
 rw [hn] at hK hts |-
 have HN := hid hn
 obtain ⟨nk, hnk⟩ : ∃ n, ks.length = n := ⟨_, rfl⟩
 rw [hnk]
 clear ht hsm hkids hk1 hdd hn hnk
 go_enter Tryz.func18, Tryz.ntmps18
 go_wp2
 go_loopw [3, 4] (fun m i wr => Hid (Below w.heap.size w wr) /\ wr.heap[w.heap.size]? = some (.cells #[.int .i64 k0, .string nm, .int .i64 xk, .int .i64 xn, .string xs, .slice KA nk kc, .slice A n ca] 30) /\ ∃ (k d : Nat), k <= n /\ i = .int .i64 k /\ m = .int .i64 d /\ d <= 1000 /\ Hid (d = Ak.deepTs (ts.take k))) (fun _ i _ => n - (intOf i).toNat)
 case atStart => exact ⟨hid ((Bq _ w).alloc Nr _), Wn w _, 0, 0, by omega, rfl, rfl, by omega, hid (by rw [List.take_zero, AY])⟩
 case round =>
  obtain ⟨HB, hbx, k, d, hk, rfl, rfl, hd, HD⟩ := hrel
  have x6 := (Ay hbx).2.2.2.2.2.2.1
  by_cases hlt : k < n
  ·obtain ⟨a, o, tv, rfl, ⟨k1, n1, y1, z1, s1, KA1, kl1, kc1, A1, l1, c1, rfl, a0, a1, a2, a3, a4, a5, a6⟩, hS⟩ := hK k hlt
   replace a0 := Ab a0 HB.out
   replace a1 := Ab a1 HB.out
   replace a2 := Ab a2 HB.out
   replace a3 := Ab a3 HB.out
   replace a4 := Ab a4 HB.out
   replace a5 := Ab a5 HB.out
   replace a6 := Ab a6 HB.out
   have hki : (k : Int) < (n : Int) := by omega
   have hSw := hS wr HB.out
   have hdk1 := F0 ts k (by rw [HN.out]; exact hlt)
   have hT := F7 ts k (by rw [HN.out]; exact hlt)
   obtain ⟨dk, hdk⟩ : ∃ d, Ak (ts.getD k CL) = d := ⟨_, rfl⟩
   rw [hdk] at hSw hdk1 hT
   rw [<- HD.out] at hT
   have HT := hid hT
   have hdk2 : dk <= 1000 := by omega
   have HBX := hid hbx
   clear hK hS hdk hdk1 hT hbx
   go_wp2_with fail
   refine hSw.mono ?_
   rintro e w3 ⟨rfl, hb3⟩
   have HB3 := hid (HB.out.trans (hb3.mono HB.out.size))
   have HBX3 := hid (Aa HBX.out hb3)
   clear hSw hb3
   rcases Nat.lt_or_ge d dk with hm | hm
   ·have e : max d dk = dk := by omega
    have hmi : (d : Int) < (dk : Int) := by omega
    go_wp2
    go_roundw
    case rel => exact ⟨HB3, HBX3.out, k + 1, dk, by omega, by go_num, (by congr 1; omega), hdk2, hid (by rw [HT.out, e])⟩
    case measure => simp [intOf]; omega
   ·have e : max d dk = d := by omega
    have hmi : ¬ (d : Int) < (dk : Int) := by omega
    go_wp2
    go_roundw
    case rel => exact ⟨HB3, HBX3.out, k + 1, d, by omega, by go_num, (by congr 1; omega), hd, hid (by rw [HT.out, e])⟩
    case measure => simp [intOf]; omega
  ·have hki : ¬ (k : Int) < (n : Int) := by omega
   have HE := hid (show d = Ak.deepTs ts by rw [HD.out, List.take_of_length_le (by rw [HN.out]; omega)])
   go_wp2
   go_ret
   exact ⟨by rw [<- HE.out]; rfl, HB.out⟩
mutual
theorem TX : ∀ t : Tr, Pa t
 | .mk k nm x ks ts => PB k nm x ks ts (MT ts)
theorem MT : ∀ (ts : List Tr) (i : Nat), i < ts.length -> Pa (ts.getD i CL)
 | [], i, h => by simp at h
 | t :: r, 0, _ => TX t
 | t :: r, i + 1, h => MT r i (by simpa using h)
end
end
section
set_option maxRecDepth 100000
set_option maxHeartbeats 4000000
def Lp : Option (Int × Int) -> Value
 | none => .nilIface
 | some (no, e) => Ci no e
def Li (col : Int) : List En -> Option (Int × Int)
 | [] => none
 | x :: _ => if x.col < col then none else if col < x.col then some (x.no, 92) else some (x.no, 93)
theorem MC (R b : Nat) (es : List En) (col : Int) (w : World) (h : CE w R b es) :
  Calls Tryz.prog 108 #[.pointer (some ⟨R, 0, none⟩), .int .i64 col] w fun e w' => e = .returned (Lp (Li col es)) /\ Below w.heap.size w w' := by
 cases es with
 | nil =>
  have hN := Ej R b w h
  unfold Li Lp
  clear h
  go_enter Tryz.func108, Tryz.ntmps108
  go_wp2_with fail
  refine hN.mono ?_
  rintro e w1 ⟨rfl, hb⟩
  have HB := hid (hb.alloc hb.size (.cells #[.int .i64 0, .int .i64 0, .slice none 0 0] 107))
  clear hN hb
  go_wp2
  go_ret
  exact ⟨rfl, HB.out⟩
 | cons x r =>
  obtain ⟨o, c, A, ca, hd⟩ := h.head
  have hN := Da R b x o _ c A ca w hd (by omega)
  have hF := fun er wx => Df x.no x.col A x.l.length ca er wx
  clear h hd
  obtain ⟨no, xc, l⟩ := x
  dsimp only at hN hF |-
  obtain ⟨L, hL⟩ : ∃ L, l.length = L := ⟨_, rfl⟩
  rw [hL] at hN hF
  unfold Li
  dsimp only
  clear hL
  by_cases h1 : xc < col
  ·rw [if_pos h1]
   unfold Lp
   go_enter Tryz.func108, Tryz.ntmps108
   go_wp2_with fail
   refine hN.mono ?_
   rintro e w1 ⟨rfl, hb⟩
   have HB := hid (hb.alloc hb.size (.cells #[.int .i64 no, .int .i64 xc, .slice A L ca] 107))
   clear hN hb
   go_wp2
   go_ret
   exact ⟨rfl, HB.out⟩
  ·rw [if_neg h1]
   by_cases h2 : col < xc
   ·rw [if_pos h2]
    unfold Lp
    go_enter Tryz.func108, Tryz.ntmps108
    go_wp2_with fail
    refine hN.mono ?_
    rintro e w1 ⟨rfl, hb⟩
    have HB := hid (hb.alloc hb.size (.cells #[.int .i64 no, .int .i64 xc, .slice A L ca] 107))
    clear hN hb
    go_wp2_with fail
    refine (hF 92 _).mono ?_
    rintro e w2 ⟨rfl, hb⟩
    have HB2 := hid (HB.out.trans (hb.mono HB.out.size))
    clear hb
    unfold Ci
    go_wp2
    go_ret
    exact ⟨rfl, HB2.out⟩
   ·rw [if_neg h2]
    unfold Lp
    go_enter Tryz.func108, Tryz.ntmps108
    go_wp2_with fail
    refine hN.mono ?_
    rintro e w1 ⟨rfl, hb⟩
    have HB := hid (hb.alloc hb.size (.cells #[.int .i64 no, .int .i64 xc, .slice A L ca] 107))
    clear hN hb
    go_wp2_with fail
    refine (hF 93 _).mono ?_
    rintro e w2 ⟨rfl, hb⟩
    have HB2 := hid (HB.out.trans (hb.mono HB.out.size))
    clear hb
    unfold Ci
    go_wp2
    go_ret
    exact ⟨rfl, HB2.out⟩
theorem Kw (v : Value) (w : World) : (Instr.typeAssert (.iface 149 v) 147 149 true).run Tryz.prog w = .ok (.tuple #[v, .bool true]) w := by kernel_rfl
theorem K4 (v : Value) (w : World) : (Instr.typeAssert (.iface 150 v) 147 149 true).run Tryz.prog w = .ok (.tuple #[.agg #[], .bool false]) w := by kernel_rfl
theorem K0 (v : Value) (w : World) : (Instr.typeAssert (.iface 152 v) 147 149 true).run Tryz.prog w = .ok (.tuple #[.agg #[], .bool false]) w := by kernel_rfl
theorem KJ (v : Value) (w : World) : (Instr.typeAssert (.iface 206 v) 147 149 true).run Tryz.prog w = .ok (.tuple #[.agg #[], .bool false]) w := by kernel_rfl
theorem Nq (v : Value) (w : World) : (Instr.typeAssert (.iface 150 v) 147 150 true).run Tryz.prog w = .ok (.tuple #[v, .bool true]) w := by kernel_rfl
theorem Sf (v : Value) (w : World) : (Instr.typeAssert (.iface 149 v) 147 150 true).run Tryz.prog w = .ok (.tuple #[.agg #[], .bool false]) w := by kernel_rfl
theorem MY (v : Value) (w : World) : (Instr.typeAssert (.iface 152 v) 147 150 true).run Tryz.prog w = .ok (.tuple #[.agg #[], .bool false]) w := by kernel_rfl
theorem M1 (v : Value) (w : World) : (Instr.typeAssert (.iface 206 v) 147 150 true).run Tryz.prog w = .ok (.tuple #[.agg #[], .bool false]) w := by kernel_rfl
theorem KV (v : Value) (w : World) : (Instr.typeAssert (.iface 152 v) 147 152 true).run Tryz.prog w = .ok (.tuple #[v, .bool true]) w := by kernel_rfl
theorem PC (v : Value) (w : World) : (Instr.typeAssert (.iface 149 v) 147 152 true).run Tryz.prog w = .ok (.tuple #[.agg #[.string ⟨#[]⟩], .bool false]) w := by kernel_rfl
theorem Q7 (v : Value) (w : World) : (Instr.typeAssert (.iface 150 v) 147 152 true).run Tryz.prog w = .ok (.tuple #[.agg #[.string ⟨#[]⟩], .bool false]) w := by kernel_rfl
theorem Kv (v : Value) (w : World) : (Instr.typeAssert (.iface 206 v) 147 152 true).run Tryz.prog w = .ok (.tuple #[.agg #[.string ⟨#[]⟩], .bool false]) w := by kernel_rfl
theorem LK (g : Bg) (w : World) :
  Calls Tryz.prog 267 #[.agg #[], L5 g] w fun e w' => e = .returned (.bool (decide (g = .dash))) /\ Below w.heap.size w w' := by
 have a1 := Kw; have a2 := K4; have a3 := K0; have a4 := KJ
 have HB := hid (((Bq _ w).alloc Nr (.cells #[] 149)).alloc (by simp) (.cells #[] 149))
 cases g <;> unfold L5 <;> simp only [reduceCtorEq, decide_true, decide_false]
 all_goals
  go_enter Tryz.func267, Tryz.ntmps267
  go_wp2
  go_ret
  exact ⟨rfl, HB.out⟩
theorem M8 (g : Bg) (w : World) :
  Calls Tryz.prog 268 #[.agg #[], L5 g] w fun e w' => e = .returned (.bool (decide (g = .key))) /\ Below w.heap.size w w' := by
 have a1 := Nq; have a2 := Sf; have a3 := MY; have a4 := M1
 have HB := hid (((Bq _ w).alloc Nr (.cells #[] 150)).alloc (by simp) (.cells #[] 150))
 cases g <;> unfold L5 <;> simp only [reduceCtorEq, decide_true, decide_false]
 all_goals
  go_enter Tryz.func268, Tryz.ntmps268
  go_wp2
  go_ret
  exact ⟨rfl, HB.out⟩
def Ll (t : Tr) : Prop := ∀ (tv : Value) (S : Nat -> Prop) (w : World), Ao w S t tv -> Sm 1000000 t -> Ak t <= 1000 →
 Calls Tryz.prog 113 #[tv] w fun e w' => e = .returned (.int .i64 (Ak t)) /\ Below w.heap.size w w'
theorem O2 (k0 : Int) (nm : ByteArray) (x : Sc) (ks : List Sc) (ts : List Tr) (hkids : ∀ i, i < ts.length -> Ll (ts.getD i CL)) : Ll (.mk k0 nm x ks ts) := by
 intro tv S w h hsm hdp
 rw [Ao] at h
 unfold Sm at hsm
 obtain ⟨hks, hts, hsm⟩ := hsm
 have hdd : Ak (.mk k0 nm x ks ts) = Ak.deepTs ts + 1 := by rw [Ak]
 rw [hdd] at hdp |-
 obtain ⟨kv, A, ca, rfl, hk1, _, ht⟩ := h
 obtain ⟨KA, kc, rfl, _⟩ := id hk1
 obtain ⟨xk, xn, xs⟩ := x
 dsimp only
 have hK : ∀ k, k < ts.length -> ∃ (a o : Nat) (tv : Value), A = some ⟨a, o, none⟩ /\ (∃ (kd : Int) (nm : ByteArray) (xk xn : Int) (xs : ByteArray) (KA : Option Addr) (kl kc : Nat) (A : Option Addr) (l c : Nat),
   tv = .agg #[.int .i64 kd, .string nm, .int .i64 xk, .int .i64 xn, .string xs, .slice KA kl kc, .slice A l c] /\ w.cell? ⟨a, o + k * 7, none⟩ = some (.int .i64 kd) /\ w.cell? ⟨a, o + k * 7 + 1, none⟩ = some (.string nm) /\ w.cell? ⟨a, o + k * 7 + 2, none⟩ = some (.int .i64 xk) ∧
   w.cell? ⟨a, o + k * 7 + 3, none⟩ = some (.int .i64 xn) /\ w.cell? ⟨a, o + k * 7 + 4, none⟩ = some (.string xs) /\ w.cell? ⟨a, o + k * 7 + 5, none⟩ = some (.slice KA kl kc) /\ w.cell? ⟨a, o + k * 7 + 6, none⟩ = some (.slice A l c)) ∧
   ∀ W, Below w.heap.size w W -> Calls Tryz.prog 113 #[tv] W fun e w' => e = .returned (.int .i64 (Ak (ts.getD k CL))) /\ Below W.heap.size W w' := fun k hk => by
  obtain ⟨a, o, tv, e1, h1, t1⟩ := I4 ts 0 k hk ht
  rw [Nat.zero_add] at h1
  exact ⟨a, o, tv, e1, h1.form t1, fun W hW => hkids k hk tv S W (t1.below hW) (Lj ts k hk hsm) (by have := F0 ts k hk; omega)⟩
 obtain ⟨n, hn⟩ : ∃ n, ts.length = n := ⟨_, rfl⟩
 rw [hn] at hK hts |-
 have HN := hid hn
 obtain ⟨nk, hnk⟩ : ∃ n, ks.length = n := ⟨_, rfl⟩
 rw [hnk]
 clear ht hsm hkids hk1 hdd hn hnk
 go_enter Tryz.func113, Tryz.ntmps113
 go_wp2
 go_loopw [3, 9] (fun m i wr => Hid (Below w.heap.size w wr) /\ wr.heap[w.heap.size]? = some (.cells #[.int .i64 k0, .string nm, .int .i64 xk, .int .i64 xn, .string xs, .slice KA nk kc, .slice A n ca] 30) /\ ∃ (k d : Nat), k <= n /\ i = .int .i64 k /\ m = .int .i64 d /\ d <= 1000 /\ Hid (d = Ak.deepTs (ts.take k))) (fun _ i _ => n - (intOf i).toNat)
 case atStart => exact ⟨hid ((Bq _ w).alloc Nr _), Wn w _, 0, 0, by omega, rfl, rfl, by omega, hid (by rw [List.take_zero, AY])⟩
 case round =>
  obtain ⟨HB, hbx, k, d, hk, rfl, rfl, hd, HD⟩ := hrel
  have x6 := (Ay hbx).2.2.2.2.2.2.1
  by_cases hlt : k < n
  ·obtain ⟨a, o, tv, rfl, ⟨k1, n1, y1, z1, s1, KA1, kl1, kc1, A1, l1, c1, rfl, a0, a1, a2, a3, a4, a5, a6⟩, hS⟩ := hK k hlt
   replace a0 := Ab a0 HB.out
   replace a1 := Ab a1 HB.out
   replace a2 := Ab a2 HB.out
   replace a3 := Ab a3 HB.out
   replace a4 := Ab a4 HB.out
   replace a5 := Ab a5 HB.out
   replace a6 := Ab a6 HB.out
   have hki : (k : Int) < (n : Int) := by omega
   have hbA : Below wr.heap.size wr (wr.alloc (.cells #[.int .i64 k1, .string n1, .int .i64 y1, .int .i64 z1, .string s1, .slice KA1 kl1 kc1, .slice A1 l1 c1] 30)) := (Bq _ wr).alloc Nr _
   have HBA := hid (HB.out.trans (hbA.mono HB.out.size))
   have hSw := hS _ HBA.out
   have hdk1 := F0 ts k (by rw [HN.out]; exact hlt)
   have hT := F7 ts k (by rw [HN.out]; exact hlt)
   obtain ⟨dk, hdk⟩ : ∃ d, Ak (ts.getD k CL) = d := ⟨_, rfl⟩
   rw [hdk] at hSw hdk1 hT
   rw [<- HD.out] at hT
   have HT := hid hT
   have hdk2 : dk <= 1000 := by omega
   have HBX := hid hbx
   clear hK hS hdk hdk1 hT hbx
   go_wp2_with fail
   refine hSw.mono ?_
   rintro e w3 ⟨rfl, hb3⟩
   have HB3 := hid (HBA.out.trans (hb3.mono HBA.out.size))
   have HBX3 := hid (Aa (Aa HBX.out hbA) hb3)
   clear hSw hb3 hbA
   rcases Nat.lt_or_ge d dk with hm | hm
   ·have e : max d dk = dk := by omega
    have hmi : (d : Int) < (dk : Int) := by omega
    go_wp2
    go_roundw
    case rel => exact ⟨HB3, HBX3.out, k + 1, dk, by omega, by go_num, (by congr 1; omega), hdk2, hid (by rw [HT.out, e])⟩
    case measure => simp [intOf]; omega
   ·have e : max d dk = d := by omega
    have hmi : ¬ (d : Int) < (dk : Int) := by omega
    go_wp2
    go_roundw
    case rel => exact ⟨HB3, HBX3.out, k + 1, d, by omega, by go_num, (by congr 1; omega), hd, hid (by rw [HT.out, e])⟩
    case measure => simp [intOf]; omega
  ·have hki : ¬ (k : Int) < (n : Int) := by omega
   have HE := hid (show d = Ak.deepTs ts by rw [HD.out, List.take_of_length_le (by rw [HN.out]; omega)])
   go_wp2
   go_ret
   exact ⟨by rw [<- HE.out]; rfl, HB.out⟩
mutual
theorem MO : ∀ t : Tr, Ll t
 | .mk k nm x ks ts => O2 k nm x ks ts (JQ ts)
theorem JQ : ∀ (ts : List Tr) (i : Nat), i < ts.length -> Ll (ts.getD i CL)
 | [], i, h => by simp at h
 | t :: r, 0, _ => MO t
 | t :: r, i + 1, h => JQ r i (by simpa using h)
end
end
section
set_option maxRecDepth 100000
set_option maxHeartbeats 4000000
def Mg (tv : Value) : Prop := ∃ (k : Int) (nm : ByteArray) (xk xn : Int) (xs : ByteArray) (KA : Option Addr) (kl kc : Nat) (A : Option Addr) (l c : Nat),
  tv = .agg #[.int .i64 k, .string nm, .int .i64 xk, .int .i64 xn, .string xs, .slice KA kl kc, .slice A l c]
theorem DB : Mg FV := ⟨_, _, _, _, _, _, _, _, _, _, _, rfl⟩
def BZ (R b : Nat) (r : BR) (w : World) (e : Ending) (w' : World) : Prop := match r with
 | .ok t rest => ∃ tv, e = .returned (.tuple #[tv, .nilIface]) /\ Ao w' (fun k => w.heap.size <= k) t tv /\ CE w' R b rest /\ AB R b w w'
 | .bad no er => ∃ tv, e = .returned (.tuple #[tv, Ci no er]) /\ Mg tv /\ (∃ es, CE w' R b es) /\ AB R b w w'
 | .out => False
theorem BZ.bad_below {R b : Nat} {no er : Int} {w w' : World} {tv : Value} {es : List En} (h : CE w R b es) (hf : Mg tv) (hb : Below w.heap.size w w') : BZ R b (.bad no er) w (.returned (.tuple #[tv, Ci no er])) w' :=
 ⟨tv, rfl, hf, ⟨es, h.below hb⟩, AB.of_below hb⟩
def E7 (w : World) (c0 c1 c2 : Value) : World := (w.alloc (.cells #[c0, c1, c2] 107)).alloc (.cells #[.int .i64 0, .string ⟨#[]⟩, .int .i64 0, .int .i64 0, .string ⟨#[]⟩, .slice none 0 0, .slice none 0 0] 30)
theorem EI (w : World) (c0 c1 c2 : Value) : Below w.heap.size w (E7 w c0 c1 c2) /\ (E7 w c0 c1 c2).heap.size = w.heap.size + 1 + 1 /\ (E7 w c0 c1 c2).heap[w.heap.size]? = some (.cells #[c0, c1, c2] 107) ∧
  (E7 w c0 c1 c2).heap[w.heap.size + 1]? = some (.cells #[.int .i64 0, .string ⟨#[]⟩, .int .i64 0, .int .i64 0, .string ⟨#[]⟩, .slice none 0 0, .slice none 0 0] 30) := by
 unfold E7
 refine ⟨((Bq _ w).alloc Nr _).alloc (by simp) _, by simp, (Below.heap_alloc _ _ _ (by simp)).trans (Wn w _), ?_⟩
 have := Wn (w.alloc (.cells #[c0, c1, c2] 107)) (.cells #[.int .i64 0, .string ⟨#[]⟩, .int .i64 0, .int .i64 0, .string ⟨#[]⟩, .slice none 0 0, .slice none 0 0] 30)
 rwa [World.size_alloc] at this
theorem IU (R b : Nat) (rest : List En) (no col : Int) (A : Option Addr) (lf cf : Nat) (l : List AV) (A2 : Option Addr) (c2 : Nat) (d : Nat) (w : World) (h : CE w R b rest)
  (hv : AO w (.slice A2 l.length c2) l) (hcap : l.length <= c2) (hx : Fx l) (hd : d <= 1000) :
  Calls Tryz.prog 73 #[.pointer (some ⟨R, 0, none⟩), .agg #[.int .i64 no, .int .i64 col, .slice A lf cf], .slice A2 l.length c2, .int .i64 d] w (BZ R b (Bu no l d rest) w) := by
 obtain ⟨hb1, hs1, hX, hN⟩ := EI w (.int .i64 no) (.int .i64 col) (.slice A lf cf)
 have hF := fun er wx => Df no col A lf cf er wx
 have hW := PL (.slice A2 l.length c2) l (E7 w (.int .i64 no) (.int .i64 col) (.slice A lf cf)) hx (hv.below hb1) (by intro A' n' c' e; injection e with _ e1 e2; omega) (h.tb.tabs.1.below hb1) (h.tb.tabs.2.below hb1)
 have hlx := hx.len
 obtain ⟨⟨t, er⟩, hr⟩ : ∃ r, AI (AP l) = r := ⟨_, rfl⟩
 have HR := hid hr
 have hsm : er = 0 -> Sm 1000000 t /\ Ak t <= 24 := fun e => by
  subst e
  obtain ⟨h1, h2⟩ := My hr
  exact ⟨Us h1 (by rw [NS]; exact hlx), h2⟩
 have HSM := hid hsm
 have hval : Bu no l d rest = if 24 < d then .bad no 73 else if er ≠ 0 then .bad no er else if 24 < Ak t + d - 1 then .bad no 73 else .ok t rest := by unfold Bu; rw [hr]
 rw [hr] at hW
 obtain ⟨vr, hvr⟩ : ∃ r, Bu no l d rest = r := ⟨_, rfl⟩
 rw [hval] at hvr
 rw [show Bu no l d rest = vr from hval.trans hvr]
 have HV := hid hvr
 obtain ⟨L, hL⟩ : ∃ L, l.length = L := ⟨_, rfl⟩
 rw [hL] at hW |-
 have HX := hid (Ai hX (Ai hN hb1))
 have HH := hid h
 have hlt := h.rlt
 obtain ⟨W1, hW1⟩ : ∃ W1, E7 w (.int .i64 no) (.int .i64 col) (.slice A lf cf) = W1 := ⟨_, rfl⟩
 have HW1 := hid hW1
 unfold E7 at hW1
 rw [show E7 w (.int .i64 no) (.int .i64 col) (.slice A lf cf) = W1 from HW1.out] at HX hW hs1
 have HS1 := hid hs1
 clear hr hsm hval hvr hL hX hN hb1 h hv hx hcap hlx hs1
 by_cases h1 : 24 < d
 ·have h1i : (24 : Int) < (d : Int) := by omega
  obtain rfl : vr = .bad no 73 := by rw [<- HV.out, if_pos h1]
  obtain ⟨x0, x1, x2, _⟩ := Az HX.out.1
  clear hW
  go_enter Tryz.func73, Tryz.ntmps73
  go_wp2_with fail
  refine (hF 73 _).mono ?_
  rintro e w2 ⟨rfl, hb2⟩
  have HN2 := hid (Aa HX.out.2.1 hb2)
  have HB2 := hid (HX.out.2.2.trans (hb2.mono HX.out.2.2.size))
  obtain ⟨_, _, _, _, _, _, _, f0, f1, f2, f3, f4, f5, f6⟩ := Ay HN2.out
  clear hb2 x0 x1 x2
  unfold Ci
  go_wp2
  obtain ⟨⟨e0, e1, e2, e3, e4, e5, e6⟩, hbz, _⟩ := CM HN2.out (.int .i64 0) (.string ⟨#[]⟩) (.int .i64 0) (.int .i64 0) (.string ⟨#[]⟩) (.slice none 0 0) (.slice none 0 0) _ rfl
  refine bodyPost_ret (v := .tuple #[.agg #[.int .i64 0, .string ⟨#[]⟩, .int .i64 0, .int .i64 0, .string ⟨#[]⟩, .slice none 0 0, .slice none 0 0], Ci no 73]) (by simp [results, Tryz.results73, go_sem, e0, e1, e2, e3, e4, e5, e6, Ci]) rfl ?_
  exact BZ.bad_below HH.out DB (hbz _ _ HB2.out (by omega))
 ·have h1i : ¬ (24 : Int) < (d : Int) := by omega
  obtain ⟨x0, x1, x2, _⟩ := Az HX.out.1
  go_enter Tryz.func73, Tryz.ntmps73
  go_wp2_with fail
  refine hW.mono ?_
  rintro e w2 ⟨tv, rfl, htv, hb2⟩
  obtain ⟨tk, tnm, xk, xn, ys, KA0, kl, kc, TA, tl, tc, rfl⟩ := htv.form
  have hbA : Below w2.heap.size w2 (w2.alloc (.cells #[.int .i64 tk, .string tnm, .int .i64 xk, .int .i64 xn, .string ys, .slice KA0 kl kc, .slice TA tl tc] 30)) := (Bq _ w2).alloc Nr _
  have hbW := hb2.trans (hbA.mono hb2.size)
  have HX2 := hid (Ai (Aa HX.out.1 hbW) (Ai (Aa HX.out.2.1 hbW) (HX.out.2.2.trans (hbW.mono HX.out.2.2.size))))
  have HT := hid (Ai (Wn w2 (.cells #[.int .i64 tk, .string tnm, .int .i64 xk, .int .i64 xn, .string ys, .slice KA0 kl kc, .slice TA tl tc] 30)) (htv.below hbA))
  have hsz2 : W1.heap.size <= w2.heap.size := hb2.size
  obtain ⟨w3, hw3⟩ : ∃ w3, w2.alloc (.cells #[.int .i64 tk, .string tnm, .int .i64 xk, .int .i64 xn, .string ys, .slice KA0 kl kc, .slice TA tl tc] 30) = w3 := ⟨_, rfl⟩
  rw [hw3] at HX2 HT
  clear hW hb2 hbA hbW htv x0 x1 x2
  obtain ⟨x0, x1, x2, _⟩ := Az HX2.out.1
  obtain ⟨y0, y1, y2, y3, y4, y5, y6, _⟩ := Ay HT.out.1
  by_cases h2 : er = 0
  case neg =>
   have h2i : (er != 0) = true := by simpa using h2
   have h2j : (er == 0) = false := by rw [beq_eq_false_iff_ne]; exact h2
   obtain rfl : vr = .bad no er := by rw [<- HV.out, if_neg h1, if_pos h2]
   clear h2
   go_wp2_with fail
   refine (hF er _).mono ?_
   rintro e w4 ⟨rfl, hb4⟩
   have HN4 := hid (Aa HX2.out.2.1 hb4)
   have HB4 := hid (HX2.out.2.2.trans (hb4.mono HX2.out.2.2.size))
   obtain ⟨_, _, _, _, _, _, _, f0, f1, f2, f3, f4, f5, f6⟩ := Ay HN4.out
   clear hb4 x0 x1 x2 y0 y1 y2 y3 y4 y5 y6
   unfold Ci
   go_wp2
   obtain ⟨⟨e0, e1, e2, e3, e4, e5, e6⟩, hbz, _⟩ := CM HN4.out (.int .i64 0) (.string ⟨#[]⟩) (.int .i64 0) (.int .i64 0) (.string ⟨#[]⟩) (.slice none 0 0) (.slice none 0 0) _ rfl
   refine bodyPost_ret (v := .tuple #[.agg #[.int .i64 0, .string ⟨#[]⟩, .int .i64 0, .int .i64 0, .string ⟨#[]⟩, .slice none 0 0, .slice none 0 0], Ci no er]) (by simp [results, Tryz.results73, go_sem, e0, e1, e2, e3, e4, e5, e6, Ci]) rfl ?_
   exact BZ.bad_below HH.out DB (hbz _ _ HB4.out (by omega))
  case pos =>
   subst h2
   obtain ⟨hsm, hd24⟩ := HSM.out rfl
   have hD := MO t _ _ w3 HT.out.2 hsm (by omega)
   obtain ⟨dt, hdt⟩ : ∃ dt, Ak t = dt := ⟨_, rfl⟩
   rw [hdt] at hD hd24 HV
   have hwr : IntKind.i64.wrap ((dt : Int) + (d : Int)) = (dt : Int) + (d : Int) := IntWalk.i64_in _ (by omega)
   have hwr2 : IntKind.i64.wrap ((dt : Int) + (d : Int) - 1) = (dt : Int) + (d : Int) - 1 := IntWalk.i64_in _ (by omega)
   go_wp2_with fail
   refine hD.mono ?_
   rintro e w4 ⟨rfl, hb4⟩
   have HX4 := hid (Ai (Aa HX2.out.1 hb4) (Ai (Aa HX2.out.2.1 hb4) (HX2.out.2.2.trans (hb4.mono HX2.out.2.2.size))))
   have HT4 := hid (Ai (Aa HT.out.1 hb4) (HT.out.2.below hb4))
   clear hb4 hD x0 x1 x2 y0 y1 y2 y3 y4 y5 y6
   obtain ⟨x0, x1, x2, _⟩ := Az HX4.out.1
   obtain ⟨y0, y1, y2, y3, y4, y5, y6, _⟩ := Ay HT4.out.1
   by_cases h3 : 24 < dt + d - 1
   ·have h3i : (24 : Int) < (dt : Int) + (d : Int) - 1 := by omega
    obtain rfl : vr = .bad no 73 := by rw [<- HV.out, if_neg h1, if_neg (by decide), if_pos h3]
    go_wp2_with fail
    refine (hF 73 _).mono ?_
    rintro e w5 ⟨rfl, hb5⟩
    have HN5 := hid (Aa HX4.out.2.1 hb5)
    have HB5 := hid (HX4.out.2.2.trans (hb5.mono HX4.out.2.2.size))
    obtain ⟨_, _, _, _, _, _, _, f0, f1, f2, f3, f4, f5, f6⟩ := Ay HN5.out
    clear hb5 x0 x1 x2 y0 y1 y2 y3 y4 y5 y6
    unfold Ci
    go_wp2
    obtain ⟨⟨e0, e1, e2, e3, e4, e5, e6⟩, hbz, _⟩ := CM HN5.out (.int .i64 0) (.string ⟨#[]⟩) (.int .i64 0) (.int .i64 0) (.string ⟨#[]⟩) (.slice none 0 0) (.slice none 0 0) _ rfl
    refine bodyPost_ret (v := .tuple #[.agg #[.int .i64 0, .string ⟨#[]⟩, .int .i64 0, .int .i64 0, .string ⟨#[]⟩, .slice none 0 0, .slice none 0 0], Ci no 73]) (by simp [results, Tryz.results73, go_sem, e0, e1, e2, e3, e4, e5, e6, Ci]) rfl ?_
    exact BZ.bad_below HH.out DB (hbz _ _ HB5.out (by omega))
   ·have h3i : ¬ (24 : Int) < (dt : Int) + (d : Int) - 1 := by omega
    obtain rfl : vr = .ok t rest := by rw [<- HV.out, if_neg h1, if_neg (by decide), if_neg h3]
    obtain ⟨_, _, _, _, _, _, _, f0, f1, f2, f3, f4, f5, f6⟩ := Ay HX4.out.2.1
    go_wp2
    obtain ⟨⟨e0, e1, e2, e3, e4, e5, e6⟩, hbz, hwz⟩ := CM HX4.out.2.1 (.int .i64 tk) (.string tnm) (.int .i64 xk) (.int .i64 xn) (.string ys) (.slice KA0 kl kc) (.slice TA tl tc) _ rfl
    refine bodyPost_ret (v := .tuple #[.agg #[.int .i64 tk, .string tnm, .int .i64 xk, .int .i64 xn, .string ys, .slice KA0 kl kc, .slice TA tl tc], .nilIface]) (by simp [results, Tryz.results73, go_sem, e0, e1, e2, e3, e4, e5, e6]) rfl ?_
    have hb6 := hbz _ _ HX4.out.2.2 (by omega)
    have hs1 := HS1.out
    exact ⟨_, rfl, Au (fun k _ hk => by omega) _ _ (As (hwz _ (by omega)) _ _ HT4.out.2), HH.out.below hb6, AB.of_below hb6⟩
end
end Go.Proofs.YtaogfdffgdglkaaGreatDoor
