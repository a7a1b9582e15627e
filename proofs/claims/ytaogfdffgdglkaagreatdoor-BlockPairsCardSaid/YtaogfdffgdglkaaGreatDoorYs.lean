/- What is proved: a part of the walk of the program and of its plain laws; no condition beside those that each theorem names. -/
import Derived.Test.YtaogfdffgdglkaaGreatDoorYi
import Derived.Test.YtaogfdffgdglkaaGreatDoorYp
import Derived.Test.YtaogfdffgdglkaaGreatDoorYr
import Derived.Test.YtaogfdffgdglkaaGreatDoorYl
import Derived.Test.YtaogfdffgdglkaaGreatDoorYn
import Derived.Test.YtaogfdffgdglkaaGreatDoorYa
import Derived.Deep.QuietTactic
import Derived.BigQuiet
import Derived.Deep.RegionHeld3
namespace Go.Proofs.YtaogfdffgdglkaaGreatDoor
open Go Go.RowKit Go.Lib
set_option linter.unusedSimpArgs false
set_option linter.unusedVariables false
section
namespace Go.Proofs.YtaogfdffgdglkaaGreatDoor.Fw
open Go Go.RowKit Go.Extern.Stop Go.Stop Go.Extern
theorem Fe (t : Addr) (w : World) : (ReflectliteValue.unpack (.iface 282 (.pointer (some t)))).run Tryz.prog w
  = .ok (.agg #[.pointer (some ⟨9, 282, none⟩), .pointer (some ⟨w.heap.size, 0, none⟩), .int .u64 150]) (w.alloc (.cells #[.pointer (some t)] 282)) := by kernel_rfl
theorem N0 (a : Addr) (w : World) : (ReflectliteValue.methodAny (ReflectliteValue.valueError "reflectlite.Value.Type" 0) (fun t _ _ _ => ReflectliteType.toType t) #[.agg #[.pointer (some ⟨9, 282, none⟩), .pointer (some a), .int .u64 150]]).run Tryz.prog w
  = .ok (.iface 211 (.agg #[.pointer (some ⟨9, 282, none⟩)])) w := by kernel_rfl
theorem DQ (n : Nat) (h : Value) (w : World) : (Go.method (n + 1) 211 (.agg #[h]) "Kind").run Tryz.prog w = .ok (260, h) w := by kernel_rfl
theorem Nh (w : World) : ((ReflectliteType.abiMethod fun t => (fun a : Nat => Value.int IntKind.u8 (a : Int)) <$> Rtype.kind t) #[.pointer (some ⟨9, 282, none⟩)]).run Tryz.prog w = .ok (.int .u8 22) w := by kernel_rfl
theorem Nd (w : World) : ((ReflectliteType.abiMethod fun t => (fun a : Nat => Value.int IntKind.u8 (a : Int)) <$> Rtype.kind t) #[.pointer (some ⟨9, 281, none⟩)]).run Tryz.prog w = .ok (.int .u8 25) w := by kernel_rfl
theorem Uo (z : Sem Value) (f : TypeId -> Addr -> Nat -> Nat -> Sem Value) (v : Value) :
  ReflectliteValue.method z f #[v] = (do match <- ReflectliteValue.parts v with | none => z | some (t, a, fl) => f t a fl (fl % 32)) := rfl
theorem Fa (a : Addr) (w : World) : (ReflectliteValue.parts (.agg #[.pointer (some ⟨9, 282, none⟩), .pointer (some a), .int .u64 150])).run Tryz.prog w = .ok (some (282, a, 150)) w := by kernel_rfl
theorem Js (a p : Addr) (W : World) (ha : W.cell? a = some (.pointer (some p))) :
  (ReflectliteValue.method (ReflectliteValue.valueError "reflectlite.Value.IsNil" 0) ReflectliteValue.isNil #[.agg #[.pointer (some ⟨9, 282, none⟩), .pointer (some a), .int .u64 150]]).run Tryz.prog W = .ok (.bool false) W := by
 rw [Uo]
 simp only [Sem.run_bind, Fa, Result.andThen]
 simp [ReflectliteValue.isNil, loadVar, isAgg, underlying, Tryz.underlying282, ha, Result.andThen]
theorem DH (n : Nat) (h : Value) (w : World) : (Go.method (n + 1) 211 (.agg #[h]) "Elem").run Tryz.prog w = .ok (278, .agg #[h]) w := by kernel_rfl
theorem BO (n : Nat) (h : Value) (w : World) : (Go.method (n + 1) 211 (.agg #[h]) "Implements").run Tryz.prog w = .ok (279, .agg #[h]) w := by kernel_rfl
theorem B5 (n : Nat) (h : Value) (w : World) : (Go.method (n + 1) 211 (.agg #[h]) "AssignableTo").run Tryz.prog w = .ok (276, .agg #[h]) w := by kernel_rfl
theorem MA (w : World) : (ReflectliteType.method ReflectliteType.elem #[.agg #[.pointer (some ⟨9, 282, none⟩)]]).run Tryz.prog w = .ok (.iface 211 (.agg #[.pointer (some ⟨9, 281, none⟩)])) w := by kernel_rfl
theorem Dr (w : World) : (ReflectliteType.relation "Implements" ReflectliteType.implements_ #[.agg #[.pointer (some ⟨9, 281, none⟩)], .iface 211 (.agg #[.pointer (some ⟨9, 51, none⟩)])]).run Tryz.prog w = .ok (.bool true) w := by kernel_rfl
theorem G0 (v : Value) (w : World) : (ReflectliteType.typeOf #[.iface 281 v]).run Tryz.prog w = .ok (.iface 211 (.agg #[.pointer (some ⟨9, 281, none⟩)])) w := by kernel_rfl
theorem Ds (w : World) : (ReflectliteType.relation "AssignableTo" ReflectliteType.assignableTo #[.agg #[.pointer (some ⟨9, 281, none⟩)], .iface 211 (.agg #[.pointer (some ⟨9, 281, none⟩)])]).run Tryz.prog w = .ok (.bool true) w := by kernel_rfl
theorem EV (e : Int) (w : World) : (ReflectliteValue.unpack (.iface 281 (.agg #[.int .i64 e]))).run Tryz.prog w
  = .ok (.agg #[.pointer (some ⟨9, 281, none⟩), .pointer (some ⟨w.heap.size, 0, none⟩), .int .u64 153]) (w.alloc (.cells #[.int .i64 e] 281)) := by kernel_rfl
theorem GQ (w : World) : (Rtype.elem? 282).run Tryz.prog w = .ok (some 281) w := by kernel_rfl
theorem V1 (p : Addr) (w : World) : (ReflectliteValue.mk 281 p ReflectliteValue.flagAddr).run Tryz.prog w = .ok (.agg #[.pointer (some ⟨9, 281, none⟩), .pointer (some p), .int .u64 409]) w := by kernel_rfl
theorem IW (a p : Addr) (W : World) (ha : W.cell? a = some (.pointer (some p))) :
  (ReflectliteValue.method (ReflectliteValue.valueError "reflectlite.Value.Elem" 0) ReflectliteValue.elem #[.agg #[.pointer (some ⟨9, 282, none⟩), .pointer (some a), .int .u64 150]]).run Tryz.prog W
   = .ok (.agg #[.pointer (some ⟨9, 281, none⟩), .pointer (some p), .int .u64 409]) W := by
 rw [Uo]
 simp only [Sem.run_bind, Fa, Result.andThen]
 simp [ReflectliteValue.elem, loadVar, isAgg, underlying, Tryz.underlying282, ha, Result.andThen, GQ, V1]
theorem VD (v x : Value) : ReflectliteValue.set #[v, x] = (do
  let (some (dst, a, fl), some (src, b, _)) := (<- ReflectliteValue.parts v, <- ReflectliteValue.parts x)
   | unsupported (.noEntry "extern/(internal/reflectlite.Value).Set.zeroValue")
  if fl / ReflectliteValue.flagAddr % 2 == 0 then unsupported (.noEntry "extern/(internal/reflectlite.Value).Set.unaddressable")
  let val <- loadVar src b
  if <- Rtype.directlyAssignable dst src then storeVar dst a val
  else if <- Rtype.implements dst src then
   if (<- Rtype.kind src) == 20 then
    match val with
    | .nilIface => unsupported (.noEntry "extern/reflectlite: a nil value of one interface type handed on as a value of another")
    | _ => storeVar dst a val
   else storeVar dst a (.iface src val)
  else panicString ("reflectlite.Set: value of type " ++ (<- Rtype.spelt src) ++ " is not assignable to type " ++ (<- Rtype.spelt dst))
  pure (.tuple #[])) := rfl
theorem Gn (a : Addr) (w : World) : (ReflectliteValue.parts (.agg #[.pointer (some ⟨9, 281, none⟩), .pointer (some a), .int .u64 409])).run Tryz.prog w = .ok (some (281, a, 409)) w := by kernel_rfl
theorem II (a : Addr) (w : World) : (ReflectliteValue.parts (.agg #[.pointer (some ⟨9, 281, none⟩), .pointer (some a), .int .u64 153])).run Tryz.prog w = .ok (some (281, a, 153)) w := by kernel_rfl
theorem Gq (w : World) : (Rtype.directlyAssignable 281 281).run Tryz.prog w = .ok true w := by kernel_rfl
theorem Il (w : World) : (sizeOf 281).run Tryz.prog w = .ok 1 w := by kernel_rfl
theorem I0 (w : World) : (isAgg 281).run Tryz.prog w = .ok true w := by kernel_rfl
theorem RE (ta b : Addr) (e : Int) (old : Value) (W : World) (hb : W.cell? b = some (.int .i64 e)) (ht : W.cell? ta = some old) (hf : W.frozen? ta = false) :
  (ReflectliteValue.set #[.agg #[.pointer (some ⟨9, 281, none⟩), .pointer (some ta), .int .u64 409], .agg #[.pointer (some ⟨9, 281, none⟩), .pointer (some b), .int .u64 153]]).run Tryz.prog W
   = .ok (.tuple #[]) (W.setCell ta (.int .i64 e)) := by
 rw [VD]
 simp only [Sem.run_bind, Gn, II, Result.andThen]
 have hld : (loadCells b 1).run Tryz.prog W = .ok #[.int .i64 e] W := by
  simp [loadCells, loadCellsFrom, Addr.add, hb, Result.andThen]
 have hst : (storeVar 281 ta (.agg #[.int .i64 e])).run Tryz.prog W = .ok () (W.setCell ta (.int .i64 e)) := by
  have hsc : (storeCells ta [.int .i64 e]).run Tryz.prog W = .ok () (W.setCell ta (.int .i64 e)) := by
   simp only [storeCells, Addr.add, Nat.add_zero, Sem.run_bind, if_true]
   rw [run_store Tryz.prog W ta _ _ (by rfl)]
   simp [ht, hf, Result.andThen]
  unfold storeVar
  simp only [Sem.run_bind, Il, Result.andThen]
  exact hsc
 simp [ReflectliteValue.flagAddr, loadVar, I0, Il, hld, Result.andThen, Gq, hst]
theorem J0 (e : Int) (t : Addr) (old : Value) (w : World) (hg : Cb w) (ht0 : w.cell? t = some old) (hf0 : w.frozen? t = false) :
  Calls Tryz.prog 43 #[.iface 281 (.agg #[.int .i64 e]), .iface 282 (.pointer (some t))] w fun ev w' => ev = .returned (.bool true) /\ w' = ((((w.alloc (.cells #[.pointer (some t)] 282)).alloc (.cells #[.pointer (some ⟨9, 282, none⟩), .pointer (some ⟨w.heap.size, 0, none⟩), .int .u64 150] 158)).alloc (.cells #[.pointer (some ⟨9, 282, none⟩), .pointer (some ⟨w.heap.size, 0, none⟩), .int .u64 150] 158)).alloc (.cells #[.int .i64 e] 281)).setCell t (.int .i64 e) := by
 have h6 := @run_callFunc_extern Tryz.prog 74 _ (fun args => ReflectliteValue.unpack (args.getD 0 (.tuple #[]))) Tryz.func74 (by kernel_rfl) (by kernel_rfl) (by kernel_rfl) (by kernel_rfl)
 have h7 := @run_callFunc_extern Tryz.prog 75 _ (ReflectliteValue.methodAny (ReflectliteValue.valueError "reflectlite.Value.Type" 0) (fun t _ _ _ => ReflectliteType.toType t)) Tryz.func75 (by kernel_rfl) (by kernel_rfl) (by kernel_rfl) (by kernel_rfl)
 have h8 := @run_callFunc_extern Tryz.prog 76 _ (ReflectliteValue.method (ReflectliteValue.valueError "reflectlite.Value.IsNil" 0) ReflectliteValue.isNil) Tryz.func76 (by kernel_rfl) (by kernel_rfl) (by kernel_rfl) (by kernel_rfl)
 have h27 := @run_callFunc_extern Tryz.prog 260 _ (ReflectliteType.abiMethod fun t => do pure (.int .u8 (<- Rtype.kind t))) Tryz.func260 (by kernel_rfl) (by kernel_rfl) (by kernel_rfl) (by kernel_rfl)
 have h37 := @run_callFunc_extern Tryz.prog 278 _ (ReflectliteType.method ReflectliteType.elem) Tryz.func278 (by kernel_rfl) (by kernel_rfl) (by kernel_rfl) (by kernel_rfl)
 have h38 := @run_callFunc_extern Tryz.prog 279 _ (ReflectliteType.relation "Implements" ReflectliteType.implements_) Tryz.func279 (by kernel_rfl) (by kernel_rfl) (by kernel_rfl) (by kernel_rfl)
 have h10 := @run_callFunc_extern Tryz.prog 114 _ (ReflectliteType.typeOf) Tryz.func114 (by kernel_rfl) (by kernel_rfl) (by kernel_rfl) (by kernel_rfl)
 have h35 := @run_callFunc_extern Tryz.prog 276 _ (ReflectliteType.relation "AssignableTo" ReflectliteType.assignableTo) Tryz.func276 (by kernel_rfl) (by kernel_rfl) (by kernel_rfl) (by kernel_rfl)
 have h11 := @run_callFunc_extern Tryz.prog 115 _ (ReflectliteValue.method (ReflectliteValue.valueError "reflectlite.Value.Elem" 0) ReflectliteValue.elem) Tryz.func115 (by kernel_rfl) (by kernel_rfl) (by kernel_rfl) (by kernel_rfl)
 have h12 := @run_callFunc_extern Tryz.prog 116 _ (ReflectliteValue.set) Tryz.func116 (by kernel_rfl) (by kernel_rfl) (by kernel_rfl) (by kernel_rfl)
 have tO := G0
 have mA := B5
 have a25 := Ds
 have v25 := EV
 have f6 := Fe
 have f7 := N0
 have mK := DQ
 have mE := DH
 have mI := BO
 have k27 := Nh
 have k25 := Nd
 have e27 := MA
 have i25 := Dr
 have n8 := Js ⟨w.heap.size, 0, none⟩ t ((w.alloc (.cells #[.pointer (some t)] 282)).alloc (.cells #[.pointer (some ⟨9, 282, none⟩), .pointer (some ⟨w.heap.size, 0, none⟩), .int .u64 150] 158)) (by simp)
 have hlt : 0 < w.heap.size := AS hg
 have hg2 : ((w.alloc (.cells #[.pointer (some t)] 282)).alloc (.cells #[.pointer (some ⟨9, 282, none⟩), .pointer (some ⟨w.heap.size, 0, none⟩), .int .u64 150] 158)).cell? ⟨0, 0, none⟩ = some (.iface 211 (.agg #[.pointer (some ⟨9, 51, none⟩)])) := by
  rw [World.cell?_alloc_lt _ _ ⟨0, 0, none⟩ (by simp <;> omega), World.cell?_alloc_lt _ _ ⟨0, 0, none⟩ hlt]; exact hg
 have htl : t.block < w.heap.size := by
  rcases Nat.lt_or_ge t.block w.heap.size with h | h
  ·exact h
  ·simp [World.cell?, Array.getElem?_eq_none h] at ht0
 have el := IW ⟨w.heap.size, 0, none⟩ t (((w.alloc (.cells #[.pointer (some t)] 282)).alloc (.cells #[.pointer (some ⟨9, 282, none⟩), .pointer (some ⟨w.heap.size, 0, none⟩), .int .u64 150] 158)).alloc (.cells #[.pointer (some ⟨9, 282, none⟩), .pointer (some ⟨w.heap.size, 0, none⟩), .int .u64 150] 158)) (by rw [World.cell?_alloc_lt _ _ ⟨w.heap.size, 0, none⟩ (by simp <;> omega)]; simp)
 have st := RE t ⟨w.heap.size + 1 + 1 + 1, 0, none⟩ e old ((((w.alloc (.cells #[.pointer (some t)] 282)).alloc (.cells #[.pointer (some ⟨9, 282, none⟩), .pointer (some ⟨w.heap.size, 0, none⟩), .int .u64 150] 158)).alloc (.cells #[.pointer (some ⟨9, 282, none⟩), .pointer (some ⟨w.heap.size, 0, none⟩), .int .u64 150] 158)).alloc (.cells #[.int .i64 e] 281))
  (by rw [World.cell?_alloc_at _ _ _ _ (by simp)]; rfl)
  (by rw [World.cell?_alloc_lt _ _ t (by simp; omega), World.cell?_alloc_lt _ _ t (by simp; omega), World.cell?_alloc_lt _ _ t (by simp; omega), World.cell?_alloc_lt _ _ t htl]; exact ht0)
  (by rw [World.frozen?_alloc_old _ _ t (by simp; omega), World.frozen?_alloc_old _ _ t (by simp; omega), World.frozen?_alloc_old _ _ t (by simp; omega), World.frozen?_alloc_old _ _ t (Nat.ne_of_lt htl)]; exact hf0)
 go_enter Tryz.func43, Tryz.ntmps43
 go_wp2
 refine wp_loop_rounds 1 ?_
 rw [rounds_succ]
 go_wp2
 go_ret
 exact ⟨rfl, rfl⟩
theorem told_any (e : Int) (w : World) (hg : Cb w) :
  Calls Tryz.prog 166 #[.iface 281 (.agg #[.int .i64 e])] w fun ev w' => ev = .returned (.int .i64 e) /\ Below w.heap.size w w' := by
 have b0 := Boxed.new w 281 (.int .i64 0)
 have hg1 : Cb (w.alloc (.cells #[.int .i64 0] 281)) := hg.below ((Bq _ w).alloc Nr _)
 have HG := hid hg1
 clear hg1 hg
 have hA := J0 e ⟨w.heap.size, 0, none⟩ (.int .i64 0) (w.alloc (.cells #[.int .i64 0] 281)) HG.out b0.cell b0.frozen
 go_enter Tryz.func166, Tryz.ntmps166
 go_wp2_with fail
 refine hA.mono ?_
 rintro ev w1 ⟨rfl, hw1⟩
 have c1 : w1.cell? ⟨w.heap.size, 0, none⟩ = some (.int .i64 e) := by
  rw [hw1]
  exact ((((((b0.alloc _).alloc _).alloc _).alloc _).set (.int .i64 e))).cell
 have hb1 : Below w.heap.size w w1 := by
  rw [hw1]
  exact (((((((Bq _ w).alloc Nr _).alloc (by simp) _).alloc (by simp; omega) _).alloc (by simp; omega) _).alloc (by simp; omega) _).setCell (p := ⟨w.heap.size, 0, none⟩) Nr _)
 clear hw1 hA b0
 go_wp2
 go_ret
 exact ⟨rfl, hb1⟩
end Go.Proofs.YtaogfdffgdglkaaGreatDoor.Fw
set_option maxHeartbeats 4000000
set_option maxRecDepth 100000
theorem Rb {w : World} {b : Nat} {t : TypeId} {v0 v1 : Value} (h : w.heap[b]? = some (.cells #[v0, v1] t)) :
  w.cell? ⟨b, 0, none⟩ = some v0 /\ w.cell? ⟨b, 1, none⟩ = some v1 /\ w.frozen? ⟨b, 0, none⟩ = false /\ w.frozen? ⟨b, 1, none⟩ = false := by
 refine ⟨?_, ?_, ?_, ?_⟩ <;> simp [World.cell?, World.frozen?, h]
def Rs (ks : List Int) (c : Int) (w : World) (e : Ending) (w' : World) : Prop := ∃ k : Int, e = .returned (.int .i64 k) /\ decide (0 <= k) = ks.contains c /\ w' = w
theorem Fh {l : List Int} {c : Int} {k : Nat} (h : k < l.length) : (l.take (k + 1)).contains c = ((l.take k).contains c || c == l[k]) := by
 rw [Bool.eq_iff_iff, List.contains_iff_mem, List.take_succ_eq_append_getElem h, List.mem_append, List.mem_singleton, Bool.or_eq_true, List.contains_iff_mem, beq_iff_eq]
theorem Qa (ks : List Int) (c : Int) (b cap : Nat) (w : World) (hs : ks.length <= 1000) (hc : ∀ i, i < ks.length -> w.cell? ⟨b, i, none⟩ = some (.int .i64 (ks.getD i 0))) :
  Calls Tryz.prog 227 #[.slice (some ⟨b, 0, none⟩) ks.length cap, .int .i64 c] w (Rs ks c w) := by
 obtain ⟨n, hn⟩ : ∃ n, ks.length = n := ⟨_, rfl⟩
 rw [hn] at hs hc |-
 have HN := hid hn
 clear hn
 go_enter Tryz.func227, Tryz.ntmps227
 go_wp2
 go_loop [8] (fun i => ∃ k : Nat, k <= n /\ i = .int .i64 k /\ Hid ((ks.take k).contains c = false)) (fun i => n - (intOf i).toNat)
 case atStart => exact ⟨0, by omega, rfl, hid rfl⟩
 case round =>
  obtain ⟨k, hk, rfl, HF⟩ := hrel
  by_cases hlt : k < n
  ·have hck := hc k hlt
   obtain ⟨d, hd⟩ : ∃ d, ks.getD k 0 = d := ⟨_, rfl⟩
   rw [hd] at hck
   have HT := hid (show (ks.take (k + 1)).contains c = ((ks.take k).contains c || c == d) by
    rw [Fh (by rw [HN.out]; exact hlt), <- hd, List.getD, List.getElem?_eq_getElem (by rw [HN.out]; exact hlt)]; rfl)
   have HA := hid (show c = d -> ks.contains c = true from fun e => List.contains_iff_mem.2 (by rw [e, <- hd, List.getD, List.getElem?_eq_getElem (by rw [HN.out]; exact hlt)]; exact List.getElem_mem _))
   clear hc hd
   by_cases hcd : c = d
   ·have HA' := hid (HA.out hcd)
    subst hcd
    clear HA HT
    go_wp2
    go_ret
    exact ⟨k, rfl, by rw [HA'.out]; simp, rfl⟩
   ·have hne : (c == d) = false := by rw [beq_eq_false_iff_ne]; exact hcd
    have HF' := hid (show (ks.take (k + 1)).contains c = false by rw [HT.out, HF.out, Bool.false_or, beq_eq_false_iff_ne]; exact hcd)
    clear hcd HA HT
    go_wp2
    go_round
    case rel => exact ⟨k + 1, by omega, by go_num, HF'⟩
    case measure => simp [intOf]; omega
  ·go_wp2
   go_ret
   have h := HF.out
   rw [List.take_of_length_le (by rw [HN.out]; omega)] at h
   exact ⟨-1, rfl, by rw [h]; rfl, rfl⟩
theorem LD (ks : List Int) (c : Int) (b cap : Nat) (w : World) (hs : ks.length <= 1000) (hc : ∀ i, i < ks.length -> w.cell? ⟨b, i, none⟩ = some (.int .i64 (ks.getD i 0))) :
  Calls Tryz.prog 214 #[.slice (some ⟨b, 0, none⟩) ks.length cap, .int .i64 c] w fun e w' => e = .returned (.bool (ks.contains c)) /\ w' = w := by
 have hI := Qa ks c b cap w hs hc
 clear hc
 go_enter Tryz.func214, Tryz.ntmps214
 go_wp2_with fail
 refine hI.mono ?_
 rintro e w1 ⟨k, rfl, hk, hw⟩
 subst w1
 have HK := hid hk
 clear hk
 go_wp2
 go_ret
 exact ⟨by rw [<- HK.out]; rfl, rfl⟩
def RF (w : World) (R : Nat) (v : Value) (p : Nat) : Prop := w.heap[R]? = some (.cells #[v, .int .i64 p] 263)
theorem RF.below {w w' : World} {R : Nat} {v : Value} {p : Nat} (h : RF w R v p) (hb : Below w.heap.size w w') : RF w' R v p := Aa h hb
theorem RF.cells {w : World} {R : Nat} {v : Value} {p : Nat} (h : RF w R v p) : w.cell? ⟨R, 0, none⟩ = some v /\ w.cell? ⟨R, 1, none⟩ = some (.int .i64 p) /\ w.frozen? ⟨R, 0, none⟩ = false /\ w.frozen? ⟨R, 1, none⟩ = false := Rb h
theorem RF.alloc {w : World} {R : Nat} {v : Value} {p : Nat} (h : RF w R v p) (o : Obj) : RF (w.alloc o) R v p := h.below ((Bq _ w).alloc Nr o)
theorem RF.lt {w : World} {R : Nat} {v : Value} {p : Nat} (h : RF w R v p) : R < w.heap.size := (Gl h)
def DT (ts : List AV) (p : Nat) (ks : List Int) : Bool := decide (p < ts.length) && ks.contains (ts.getD p ⟨0, [], 0⟩).kind
theorem T4 (R : Nat) (v : Value) (ts : List AV) (p : Nat) (ks : List Int) (b cap : Nat) (w : World) (hv : AO w v ts) (hl : ts.length <= 1000000) (hp : p <= 1000000) (hks : ks.length <= 1000) (hR : RF w R v p)
  (hc : ∀ i, i < ks.length -> w.cell? ⟨b, i, none⟩ = some (.int .i64 (ks.getD i 0))) :
  Calls Tryz.prog 199 #[.pointer (some ⟨R, 0, none⟩), .slice (some ⟨b, 0, none⟩) ks.length cap] w fun e w' => e = .returned (.bool (DT ts p ks)) /\ Below w.heap.size w w' := by
 obtain ⟨A, ca, rfl, hA⟩ := hv
 obtain ⟨r0, r1, _, _⟩ := hR.cells
 obtain ⟨n, hn⟩ : ∃ n, ts.length = n := ⟨_, rfl⟩
 by_cases hlt : p < n
 ·obtain ⟨a, o, rfl, ha, a0, _, _⟩ := hA p (by omega)
  obtain ⟨c, hcc⟩ : ∃ c, (ts.getD p ⟨0, [], 0⟩).kind = c := ⟨_, rfl⟩
  rw [hcc] at a0
  have hV : DT ts p ks = ks.contains c := by unfold DT; rw [hcc, decide_eq_true (by omega), Bool.true_and]
  rw [hV]
  rw [hn] at r0 hl
  have hC := LD ks c b cap w.drew hks hc
  obtain ⟨L, hL⟩ : ∃ L, ks.length = L := ⟨_, rfl⟩
  obtain ⟨bb, hbb⟩ : ∃ bb, ks.contains c = bb := ⟨_, rfl⟩
  rw [hL, hbb] at hC
  rw [hL, hbb]
  have hpi : (p : Int) < (n : Int) := by omega
  clear hc hV hR hL hA hn hcc hbb
  go_enter Tryz.func199, Tryz.ntmps199
  go_wp2
  go_region_held3 (fun w' => w'.cell? ⟨R, 0, none⟩ = some (.slice (some ⟨a, o, none⟩) n ca) /\ w'.cell? ⟨R, 1, none⟩ = some (.int .i64 p) /\ w'.cell? ⟨a, o + p * 3, none⟩ = some (.int .i64 c)) (first | exact ⟨r0, r1, a0⟩ | assumption) (first | (go_at_call 214; refine hC.mono ?_; rintro e wz ⟨rfl, hwz⟩; subst hwz) | fail)
  go_wp2
  go_ret
  exact ⟨rfl, (Bq _ w).drew⟩
 ·have hV : DT ts p ks = false := by unfold DT; rw [decide_eq_false (by omega), Bool.false_and]
  rw [hV]
  rw [hn] at r0 hl
  have hpi : ¬ (p : Int) < (n : Int) := by omega
  clear hc hV hR hA hn
  go_enter Tryz.func199, Tryz.ntmps199
  go_wp2
  go_quiet (fail)
  go_wp2
  go_ret
  exact ⟨rfl, Ae (Bq _ _)⟩
theorem Ij (w : World) (ks : List Int) (fz : Nat × Nat) (i : Nat) (hi : i < ks.length) : (w.alloc (.cells (ks.map fun c => Value.int .i64 c).toArray 3 fz)).cell? ⟨w.heap.size, i, none⟩ = some (.int .i64 (ks.getD i 0)) := by
 have h := Wn w (.cells (ks.map fun c => Value.int .i64 c).toArray 3 fz)
 unfold World.cell?
 rw [h]
 simp [List.getD, hi]
theorem AO.alloc {w : World} {v : Value} {ts : List AV} (h : AO w v ts) (o : Obj) : AO (w.alloc o) v ts := h.below ((Bq _ w).alloc Nr o)
theorem DV (N R : Nat) (v : Value) (ts : List AV) (p : Nat) (ks : List Int) (n cap : Nat) (fz : Nat × Nat) (w : World) (hN : w.heap.size = N) (hn : ks.length = n) (hv : AO w v ts) (hl : ts.length <= 1000000) (hp : p <= 1000000) (hks : n <= 1000) (hR : RF w R v p) :
  Calls Tryz.prog 199 #[.pointer (some ⟨R, 0, none⟩), .slice (some ⟨N, 0, none⟩) n cap] (w.alloc (.cells (ks.map fun c => Value.int .i64 c).toArray 3 fz)) fun e w' => e = .returned (.bool (DT ts p ks)) /\ Below w.heap.size w w' := by
 subst hn hN
 refine (T4 R v ts p ks w.heap.size cap _ (hv.alloc _) hl hp hks (hR.alloc _) (Ij w ks fz)).mono ?_
 rintro e w' ⟨rfl, hb⟩
 exact ⟨rfl, ((Bq _ w).alloc Nr _).trans (hb.mono (by simp))⟩
theorem RF.set1 {w : World} {R : Nat} {v : Value} {p : Nat} (h : RF w R v p) (p' : Nat) : RF (w.setCell ⟨R, 1, none⟩ (.int .i64 p')) R v p' := heap_setCell_same w R 1 _ _ _ h
theorem RF.ne {w : World} {R : Nat} {v : Value} {p b o : Nat} {x : Value} (h : RF w R v p) (hc : w.cell? ⟨b, o, none⟩ = some x) (ho : 2 <= o) : b ≠ R := by
 intro e
 subst e
 obtain ⟨o', rfl⟩ : ∃ o', o = o' + 2 := ⟨o - 2, by omega⟩
 unfold RF at h
 unfold World.cell? at hc
 rw [h] at hc
 simp at hc
theorem AO.mod {w w' : World} {v u : Value} {ts : List AV} {R p : Nat} (h : AO w v ts) (hR : RF w R u p) (hm : Ax R w w') : AO w' v ts := by
 obtain ⟨A, cap, hv, hc⟩ := h
 refine ⟨A, cap, hv, fun k hk => ?_⟩
 obtain ⟨b, o, ha, hlt, h0, h1, h2⟩ := hc k hk
 have hne : b ≠ R := hR.ne h2 (by omega)
 exact ⟨b, o, ha, Nat.lt_of_lt_of_le hlt hm.size, Af.cell hm h0 hne, Af.cell hm h1 hne, Af.cell hm h2 hne⟩
def V9 (R : Nat) (v : Value) (p : Nat) (b : Bool) (w : World) (e : Ending) (w' : World) : Prop := e = .returned (.bool b) /\ RF w' R v (if b then p + 1 else p) /\ Ax R w w'
theorem EH (R : Nat) (v : Value) (ts : List AV) (p : Nat) (k : Int) (w : World) (hv : AO w v ts) (hl : ts.length <= 1000000) (hp : p <= 1000000) (hR : RF w R v p) :
  Calls Tryz.prog 216 #[.pointer (some ⟨R, 0, none⟩), .int .i64 k] w (V9 R v p (DT ts p [k]) w) := by
 have hI := fun cap fz => DV w.heap.size R v ts p [k] 1 cap fz w rfl rfl hv hl hp (by omega) hR
 obtain ⟨bb, hbb⟩ : ∃ bb, DT ts p [k] = bb := ⟨_, rfl⟩
 rw [hbb] at hI |-
 have hlt := hR.lt
 clear hbb hv hl
 have HR := hid hR
 clear hR
 go_enter Tryz.func216, Tryz.ntmps216
 go_wp2_with fail
 refine (hI _ _).mono ?_
 rintro e w1 ⟨rfl, hb1⟩
 have HR1 := hid (HR.out.below hb1)
 clear hI
 cases bb with
 | true =>
  obtain ⟨r0, r1, f0, f1⟩ := HR1.out.cells
  go_wp2
  go_ret
  exact ⟨rfl, HR1.out.set1 (p + 1), (Ax.of_below hb1).set 1 _⟩
 | false =>
  go_wp2
  go_ret
  exact ⟨rfl, HR1.out, Ax.of_below hb1⟩
def Fg (t : Pc) : Sc × Int := if t.kind = 1 then Cc ⟨t.str.toArray⟩ else if t.kind = 2 then (if validD t.str then (⟨3, 0, ⟨t.str.toArray⟩⟩, 0) else (CF, 40)) else (CF, 91)
theorem LM (t : Pc) : B3 t = if (Fg t).2 = 0 then Fg t else (CF, (Fg t).2) := by
 unfold B3 Fg
 by_cases h1 : t.kind = 1
 ·simp only [if_pos h1]
 ·simp only [if_neg h1]
  by_cases h2 : t.kind = 2
  ·simp only [if_pos h2]
   by_cases h3 : validD t.str = true
   ·simp [h3]
   ·simp [h3]
  ·simp [if_neg h2]
theorem Rj {w1 : World} {N : Nat} {a0 a1 a2 : Value} {ty : TypeId} (h : w1.heap[N]? = some (.cells #[a0, a1, a2] ty)) (v0 v1 v2 : Value) :
  (((w1.setCell ⟨N, 0, none⟩ v0).setCell ⟨N, 1, none⟩ v1).setCell ⟨N, 2, none⟩ v2).cell? ⟨N, 0, none⟩ = some v0 ∧
  (((w1.setCell ⟨N, 0, none⟩ v0).setCell ⟨N, 1, none⟩ v1).setCell ⟨N, 2, none⟩ v2).cell? ⟨N, 1, none⟩ = some v1 ∧
  (((w1.setCell ⟨N, 0, none⟩ v0).setCell ⟨N, 1, none⟩ v1).setCell ⟨N, 2, none⟩ v2).cell? ⟨N, 2, none⟩ = some v2 ∧
  (((w1.setCell ⟨N, 0, none⟩ v0).setCell ⟨N, 1, none⟩ v1).setCell ⟨N, 2, none⟩ v2).heap[N]? = some (.cells #[v0, v1, v2] ty) := by
 have h0 := heap_setCell_same w1 N 0 _ _ v0 h
 have h1 := heap_setCell_same _ N 1 _ _ v1 h0
 have h2 := heap_setCell_same _ N 2 _ _ v2 h1
 have h3 : (((w1.setCell ⟨N, 0, none⟩ v0).setCell ⟨N, 1, none⟩ v1).setCell ⟨N, 2, none⟩ v2).heap[N]? = some (.cells #[v0, v1, v2] ty) := h2
 obtain ⟨c0, c1, c2, _⟩ := Az h3
 exact ⟨c0, c1, c2, h3⟩
theorem Jw {w w1 : World} {N n : Nat} (h : Below n w w1) (hN : n <= N) (v0 v1 v2 : Value) :
  Below n w (((w1.setCell ⟨N, 0, none⟩ v0).setCell ⟨N, 1, none⟩ v1).setCell ⟨N, 2, none⟩ v2) :=
 ((h.setCell (p := ⟨N, 0, none⟩) hN _).setCell (p := ⟨N, 1, none⟩) hN _).setCell (p := ⟨N, 2, none⟩) hN _
theorem Px (k a : Int) (s : ByteArray) (w : World) (hs : s.size <= 1000000) (hT : Bz w) :
  Calls Tryz.prog 136 #[.agg #[.int .i64 k, .string s, .int .i64 a]] w fun e w' => e = .returned (.tuple #[Ia (Fg ⟨k, s.data.toList⟩).1, .int .i64 (Fg ⟨k, s.data.toList⟩).2]) /\ Below w.heap.size w w' := by
 have hss : (⟨s.data.toList.toArray⟩ : ByteArray) = s := by cases s; simp
 have hN : ((w.alloc (.cells #[.int .i64 k, .string s, .int .i64 a] 116)).alloc (.cells #[.int .i64 0, .int .i64 0, .string ⟨#[]⟩] 26)).heap[w.heap.size + 1]? = some (.cells #[.int .i64 0, .int .i64 0, .string ⟨#[]⟩] 26) := by
  have := Wn (w.alloc (.cells #[.int .i64 k, .string s, .int .i64 a] 116)) (.cells #[.int .i64 0, .int .i64 0, .string ⟨#[]⟩] 26)
  simpa using this
 have hB : Below w.heap.size w ((w.alloc (.cells #[.int .i64 k, .string s, .int .i64 a] 116)).alloc (.cells #[.int .i64 0, .int .i64 0, .string ⟨#[]⟩] 26)) := ((Bq _ w).alloc Nr _).alloc (by simp) _
 have HB := hid hB
 have HN := hid hN
 by_cases h1 : k = 1
 ·subst h1
  have hV : Fg ⟨1, s.data.toList⟩ = Cc s := by unfold Fg; simp only [if_true, hss]
  rw [hV]
  have hR := Mv s _ hs (hT.below hB)
  obtain ⟨⟨⟨xk, xn, xs⟩, er⟩, hx⟩ : ∃ r, Cc s = r := ⟨_, rfl⟩
  rw [hx] at hR |-
  clear hV hx hB hN hT
  go_enter Tryz.func136, Tryz.ntmps136
  go_wp2_with fail
  refine hR.mono ?_
  rintro e w1 ⟨rfl, hb1⟩
  have HN1 := hid (Aa HN.out hb1)
  have HB1 := hid (HB.out.trans (hb1.mono HB.out.size))
  clear hR hb1
  obtain ⟨c0, c1, c2, f0, f1, f2⟩ := Az HN1.out
  unfold Ia
  go_wp2
  obtain ⟨e0, e1, e2, _⟩ := Rj HN1.out (.int .i64 xk) (.int .i64 xn) (.string xs)
  refine bodyPost_ret (v := .tuple #[.agg #[.int .i64 xk, .int .i64 xn, .string xs], .int .i64 er]) (by simp [results, Tryz.results136, go_sem, e0, e1, e2]) rfl ⟨rfl, Jw HB1.out (by omega) _ _ _⟩
 ·by_cases h2 : k = 2
  ·subst h2
   have hR := Cg s _ hs (hT.below hB)
   obtain ⟨bb, hbb⟩ : ∃ bb, validD s.data.toList = bb := ⟨_, rfl⟩
   have hV : Fg ⟨2, s.data.toList⟩ = if bb then (⟨3, 0, s⟩, 0) else (CF, 40) := by
    unfold Fg; rw [if_neg (show ¬ (2 : Int) = 1 by decide), if_pos rfl]; simp only [hbb, hss]
   rw [hV]
   rw [hbb] at hR
   clear hV hbb hB hN hT h1
   cases bb with
   | true =>
    go_enter Tryz.func136, Tryz.ntmps136
    go_wp2_with fail
    refine hR.mono ?_
    rintro e w1 ⟨rfl, hb1⟩
    have HN1 := hid (Aa HN.out hb1)
    have hbx : w1.cell? ⟨w.heap.size, 1, none⟩ = some (.string s) := Ab (by simp) hb1
    have HB1 := hid (HB.out.trans (hb1.mono HB.out.size))
    clear hR hb1
    obtain ⟨c0, c1, c2, f0, f1, f2⟩ := Az HN1.out
    go_wp2
    obtain ⟨e0, e1, e2, _⟩ := Rj HN1.out (.int .i64 3) (.int .i64 0) (.string s)
    refine bodyPost_ret (v := .tuple #[.agg #[.int .i64 3, .int .i64 0, .string s], .int .i64 0]) (by simp [results, Tryz.results136, go_sem, e0, e1, e2]) rfl ⟨rfl, Jw HB1.out (by omega) _ _ _⟩
   | false =>
    go_enter Tryz.func136, Tryz.ntmps136
    go_wp2_with fail
    refine hR.mono ?_
    rintro e w1 ⟨rfl, hb1⟩
    have HN1 := hid (Aa HN.out hb1)
    have HB1 := hid (HB.out.trans (hb1.mono HB.out.size))
    clear hR hb1
    obtain ⟨c0, c1, c2, f0, f1, f2⟩ := Az HN1.out
    go_wp2
    obtain ⟨e0, e1, e2, _⟩ := Rj HN1.out (.int .i64 0) (.int .i64 0) (.string ⟨#[]⟩)
    refine bodyPost_ret (v := .tuple #[.agg #[.int .i64 0, .int .i64 0, .string ⟨#[]⟩], .int .i64 40]) (by simp [results, Tryz.results136, go_sem, e0, e1, e2]) rfl ⟨rfl, Jw HB1.out (by omega) _ _ _⟩
  ·have hV : Fg ⟨k, s.data.toList⟩ = (CF, 91) := by unfold Fg; rw [if_neg h1, if_neg h2]
   rw [hV]
   have hk1 : (k == 1) = false := by rw [beq_eq_false_iff_ne]; exact h1
   have hk2 : (k == 2) = false := by rw [beq_eq_false_iff_ne]; exact h2
   obtain ⟨c0, c1, c2, f0, f1, f2⟩ := Az hN
   clear hV hB hN hT h1 h2
   go_enter Tryz.func136, Tryz.ntmps136
   go_wp2
   refine bodyPost_ret (v := .tuple #[.agg #[.int .i64 0, .int .i64 0, .string ⟨#[]⟩], .int .i64 91]) (by simp [results, Tryz.results136, go_sem, c0, c1, c2]) rfl ⟨rfl, HB.out⟩
def CZ (e : Int) : Value := .iface 268 (.agg #[.iface 281 (.agg #[.int .i64 e])])
theorem BN (e : Int) (w : World) : Calls Tryz.prog 188 #[.int .i64 e] w fun ev w' => ev = .returned (CZ e) /\ w' = w := by
 go_enter Tryz.func188, Tryz.ntmps188
 go_wp2
 go_ret
 exact ⟨rfl, rfl⟩
def Jl (w : World) (b q : Nat) (tv : Value) : Prop :=
 ∃ (k : Int) (nm : ByteArray) (x : Sc) (kv cv : Value), tv = .agg #[.int .i64 k, .string nm, (.int .i64 x.kind), (.int .i64 x.num), (.string x.str), kv, cv] ∧
  w.cell? ⟨b, q, none⟩ = some (.int .i64 k) /\ w.cell? ⟨b, q + 1, none⟩ = some (.string nm) /\ w.cell? ⟨b, q + 2, none⟩ = some (.int .i64 x.kind) ∧
  w.cell? ⟨b, q + 3, none⟩ = some (.int .i64 x.num) /\ w.cell? ⟨b, q + 4, none⟩ = some (.string x.str) /\ w.cell? ⟨b, q + 5, none⟩ = some kv /\ w.cell? ⟨b, q + 6, none⟩ = some cv
def Gx (S : Nat -> Prop) (v : Value) : Prop := ∀ b o l c, v = .slice (some ⟨b, o, none⟩) l c -> 0 < l -> S b
theorem Gx.nil (S : Nat -> Prop) : Gx S (.slice none 0 0) := fun b o l c h => by cases h
def Ao (w : World) (S : Nat -> Prop) : Tr -> Value -> Prop
 | .mk k nm x ks ts, v => ∃ (kv : Value) (A : Option Addr) (cap : Nat), v = .agg #[.int .i64 k, .string nm, (.int .i64 x.kind), (.int .i64 x.num), (.string x.str), kv, .slice A ts.length cap] /\ Cy w kv ks /\ Gx S kv /\ TsIn w S A 0 ts
where TsIn (w : World) (S : Nat -> Prop) (A : Option Addr) : Nat -> List Tr -> Prop
 | _, [] => True
 | i, t :: r => (∃ (b o : Nat) (tv : Value), A = some ⟨b, o, none⟩ /\ S b /\ b < w.heap.size /\ Jl w b (o + i * 7) tv /\ Ao w S t tv) /\ TsIn w S A (i + 1) r
def B4 (S : Nat -> Prop) (w w' : World) : Prop := w.heap.size <= w'.heap.size /\ ∀ b o x, S b -> w.cell? ⟨b, o, none⟩ = some x -> w'.cell? ⟨b, o, none⟩ = some x
theorem B4.of_below {S : Nat -> Prop} {w w' : World} (hb : Below w.heap.size w w') : B4 S w w' := ⟨hb.size, fun b o x _ h => Ab h hb⟩
theorem B4.of_turn {S : Nat -> Prop} {B : Nat} {C : Nat -> Prop} {w w' : World} (ht : Af C B w w') (hC : ∀ k, C k -> ¬ S k) : B4 S w w' := ⟨ht.size, fun b o x hn h => Af.cell ht h (fun hc => hC _ hc hn)⟩
theorem B4.of_mod {S : Nat -> Prop} {R : Nat} {w w' : World} (hm : Ax R w w') (hR : ¬ S R) : B4 S w w' := B4.of_turn hm (fun k hk => by rw [hk]; exact hR)
theorem Jl.wide {S : Nat -> Prop} {w w' : World} {b q : Nat} {tv : Value} (h : Jl w b q tv) (hn : S b) (hw : B4 S w w') : Jl w' b q tv := by
 obtain ⟨k, nm, x, kv, cv, e, h0, h1, h2, h3, h4, h5, h6⟩ := h
 have g := fun o y hy => hw.2 b o y hn hy
 exact ⟨k, nm, x, kv, cv, e, g _ _ h0, g _ _ h1, g _ _ h2, g _ _ h3, g _ _ h4, g _ _ h5, g _ _ h6⟩
theorem Cy.wide {S : Nat -> Prop} {w w' : World} {v : Value} {ts : List Sc} (h : Cy w v ts) (hf : Gx S v) (hw : B4 S w w') : Cy w' v ts := by
 obtain ⟨A, cap, hv, hc⟩ := h
 refine ⟨A, cap, hv, fun k hk => ?_⟩
 obtain ⟨b, o, ha, hlt, h0, h1, h2⟩ := hc k hk
 have hn := hf b o _ _ (by rw [hv, ha]) (by omega)
 have g := fun o' y hy => hw.2 b o' y hn hy
 exact ⟨b, o, ha, Nat.lt_of_lt_of_le hlt hw.1, g _ _ h0, g _ _ h1, g _ _ h2⟩
mutual
theorem As {S : Nat -> Prop} {w w' : World} (hw : B4 S w w') : ∀ (t : Tr) (v : Value), Ao w S t v -> Ao w' S t v
 | .mk k nm x ks ts, v, h => by
  unfold Ao at h |-
  obtain ⟨kv, A, cap, e, h1, h2, h3⟩ := h
  exact ⟨kv, A, cap, e, h1.wide h2 hw, h2, Ir hw A 0 ts h3⟩
theorem Ir {S : Nat -> Prop} {w w' : World} (hw : B4 S w w') (A : Option Addr) : ∀ (i : Nat) (ts : List Tr), Ao.TsIn w S A i ts -> Ao.TsIn w' S A i ts
 | i, [], h => by unfold Ao.TsIn; trivial
 | i, t :: r, h => by
  unfold Ao.TsIn at h |-
  obtain ⟨⟨b, o, tv, e, hn, hlt, h7, ht⟩, hr⟩ := h
  exact ⟨⟨b, o, tv, e, hn, Nat.lt_of_lt_of_le hlt hw.1, h7.wide hn hw, As hw t tv ht⟩, Ir hw A (i + 1) r hr⟩
end
theorem Ao.below {S : Nat -> Prop} {w w' : World} {t : Tr} {v : Value} (h : Ao w S t v) (hb : Below w.heap.size w w') : Ao w' S t v := As (.of_below hb) t v h
theorem Ao.mod {S : Nat -> Prop} {w w' : World} {t : Tr} {v : Value} {R : Nat} (h : Ao w S t v) (hm : Ax R w w') (hR : ¬ S R) : Ao w' S t v := As (.of_mod hm hR) t v h
mutual
theorem Au {w : World} {S S' : Nat -> Prop} (hss : ∀ b, b < w.heap.size -> S b -> S' b) : ∀ (t : Tr) (v : Value), Ao w S t v -> Ao w S' t v
 | .mk k nm x ks ts, v, h => by
  unfold Ao at h |-
  obtain ⟨kv, A, cap, e, h1, h2, h3⟩ := h
  refine ⟨kv, A, cap, e, h1, fun b o l c hv hl => ?_, OW hss A 0 ts h3⟩
  have hb := h2 b o l c hv hl
  obtain ⟨A', c', e', hc⟩ := h1
  rw [e'] at hv
  injection hv with hv1 hv2 hv3
  obtain ⟨b', o', ha, hlt, _⟩ := hc 0 (by omega)
  rw [hv1] at ha
  injection ha with ha
  injection ha with ha
  subst ha
  exact hss b hlt hb
theorem OW {w : World} {S S' : Nat -> Prop} (hss : ∀ b, b < w.heap.size -> S b -> S' b) (A : Option Addr) : ∀ (i : Nat) (ts : List Tr), Ao.TsIn w S A i ts -> Ao.TsIn w S' A i ts
 | i, [], h => by unfold Ao.TsIn; trivial
 | i, t :: r, h => by
  unfold Ao.TsIn at h |-
  obtain ⟨⟨b, o, tv, e, hn, hlt, h7, ht⟩, hr⟩ := h
  exact ⟨⟨b, o, tv, e, hss b hlt hn, hlt, h7, Au hss t tv ht⟩, OW hss A (i + 1) r hr⟩
end
theorem Ao.one (w : World) (S : Nat -> Prop) (x : Sc) : Ao w S (EO x) (.agg #[.int .i64 0, .string ⟨#[]⟩, (.int .i64 x.kind), (.int .i64 x.num), (.string x.str), .slice none 0 0, .slice none 0 0]) := by
 unfold EO Ao
 exact ⟨.slice none 0 0, none, 0, rfl, Cy.nil w, Gx.nil S, by unfold Ao.TsIn; trivial⟩
theorem Ao.ref (w : World) (S : Nat -> Prop) (s : List UInt8) : Ao w S (FO s) (.agg #[.int .i64 3, .string ⟨s.toArray⟩, (.int .i64 0), (.int .i64 0), (.string ⟨#[]⟩), .slice none 0 0, .slice none 0 0]) := by
 unfold FO Ao
 exact ⟨.slice none 0 0, none, 0, rfl, Cy.nil w, Gx.nil S, by unfold Ao.TsIn; trivial⟩
theorem Ao.name {w : World} {n : Nat -> Prop} {t : Tr} {k : Int} {nm : ByteArray} {x0 x1 x2 kv cv : Value} (h : Ao w n t (.agg #[.int .i64 k, .string nm, x0, x1, x2, kv, cv])) (s : List UInt8) : Ao w n (t.named s) (.agg #[.int .i64 k, .string ⟨s.toArray⟩, x0, x1, x2, kv, cv]) := by
 cases t with
 | mk k' nm' x ks ts =>
  unfold Tr.named
  unfold Ao at h |-
  obtain ⟨kv', A, cap, e, h1, h2, h3⟩ := h
  refine ⟨kv', A, cap, ?_, h1, h2, h3⟩
  simp at e |-
  obtain ⟨e1, e2, e3, e4, e5, e6, e7⟩ := e
  exact ⟨e1, e3, e4, e5, e6, e7⟩
structure Rd (w : World) (R : Nat) (v : Value) (ts : List AV) (p : Nat) : Prop where
 rf : RF w R v p
 tk : AO w v ts
 tb : Fi R w
theorem Rd.mod {w w' : World} {R : Nat} {v : Value} {ts : List AV} {p q : Nat} (h : Rd w R v ts p) (hR : RF w' R v q) (hm : Ax R w w') : Rd w' R v ts q := ⟨hR, h.tk.mod h.rf hm, h.tb.mod hm⟩
theorem Rd.below {w w' : World} {R : Nat} {v : Value} {ts : List AV} {p : Nat} (h : Rd w R v ts p) (hb : Below w.heap.size w w') : Rd w' R v ts p := h.mod (h.rf.below hb) (Ax.of_below hb)
theorem Rd.alloc {w : World} {R : Nat} {v : Value} {ts : List AV} {p : Nat} (h : Rd w R v ts p) (o : Obj) : Rd (w.alloc o) R v ts p := h.below ((Bq _ w).alloc Nr o)
def AP (ts : List AV) : List Pc := ts.map fun t => ⟨t.kind, t.str⟩
def Cm (N R : Nat) (v : Value) (ts : List AV) (r : FR) (w : World) (e : Ending) (w' : World) : Prop :=
 match r with
 | .ok t rest => ∃ (q : Nat) (tv : Value), q <= ts.length /\ rest = AP (ts.drop q) /\ e = .returned (.iface 308 tv) /\ Ao w' (fun b => N <= b) t tv /\ RF w' R v q /\ Ax R w w'
 | .bad er => e = .returned (CZ er) /\ Ax R w w'
theorem Hc {ts : List AV} {p : Nat} {ks : List Int} (h : DT ts p ks = true) : p < ts.length := by
 unfold DT at h
 rw [Bool.and_eq_true] at h
 exact of_decide_eq_true h.1
theorem IS (w : World) (v0 v1 v2 v3 v4 v5 v6 : Value) (ty : TypeId) :
  (w.alloc (.cells #[v0, v1, v2, v3, v4, v5, v6] ty)).cell? ⟨w.heap.size, 0, none⟩ = some v0 /\ (w.alloc (.cells #[v0, v1, v2, v3, v4, v5, v6] ty)).cell? ⟨w.heap.size, 1, none⟩ = some v1 ∧
  (w.alloc (.cells #[v0, v1, v2, v3, v4, v5, v6] ty)).cell? ⟨w.heap.size, 2, none⟩ = some v2 /\ (w.alloc (.cells #[v0, v1, v2, v3, v4, v5, v6] ty)).cell? ⟨w.heap.size, 3, none⟩ = some v3 ∧
  (w.alloc (.cells #[v0, v1, v2, v3, v4, v5, v6] ty)).cell? ⟨w.heap.size, 4, none⟩ = some v4 /\ (w.alloc (.cells #[v0, v1, v2, v3, v4, v5, v6] ty)).cell? ⟨w.heap.size, 5, none⟩ = some v5 ∧
  (w.alloc (.cells #[v0, v1, v2, v3, v4, v5, v6] ty)).cell? ⟨w.heap.size, 6, none⟩ = some v6 := by
 have h := Wn w (.cells #[v0, v1, v2, v3, v4, v5, v6] ty)
 refine ⟨?_, ?_, ?_, ?_, ?_, ?_, ?_⟩ <;> (unfold World.cell?; rw [h]; rfl)
theorem JR (R : Nat) (v tv : Value) (ts : List AV) (p : Nat) (k : Int) (t : Tr) (w : World) (hv : AO w v ts) (hl : ts.length <= 1000000) (hp : p <= 1000000) (N : Nat) (hN : N <= w.heap.size) (hRN : R < N) (hR : RF w R v p) (ht : Ao w (fun b => N <= b) t tv) :
  Calls Tryz.prog 202 #[.pointer (some ⟨R, 0, none⟩), .int .i64 k, tv] w (Cm N R v ts (if DT ts p [k] then .ok t (AP (ts.drop (p + 1))) else .bad 91) w) := by
 have HT := hid ht
 cases t with
 | mk kk nm x ks kids =>
 unfold Ao at ht
 obtain ⟨kv, A, cap, rfl, _, _, _⟩ := ht
 obtain ⟨xk, xn, xs⟩ := x
 dsimp only at HT |-
 have hC := IS w (.int .i64 kk) (.string nm) (.int .i64 xk) (.int .i64 xn) (.string xs) kv (.slice A kids.length cap) 30
 obtain ⟨ln, hln⟩ : ∃ n, kids.length = n := ⟨_, rfl⟩
 rw [hln] at HT hC |-
 have hT := EH R v ts p k (w.alloc (.cells #[.int .i64 kk, .string nm, .int .i64 xk, .int .i64 xn, .string xs, kv, .slice A ln cap] 30)) (hv.alloc _) hl hp (hR.alloc _)
 have hlt := hR.lt
 have HR := hid hR
 have hne : w.heap.size ≠ R := by omega
 have HL := hid (fun h : DT ts p [k] = true => Hc h)
 obtain ⟨bb, hbb⟩ : ∃ bb, DT ts p [k] = bb := ⟨_, rfl⟩
 rw [hbb] at hT HL |-
 obtain ⟨r, hr⟩ : ∃ r, (if bb = true then FR.ok (Tr.mk kk nm ⟨xk, xn, xs⟩ ks kids) (AP (ts.drop (p + 1))) else FR.bad 91) = r := ⟨_, rfl⟩
 rw [hr]
 have HV := hid hr
 clear hbb hv hR hl hr
 go_enter Tryz.func202, Tryz.ntmps202
 go_wp2_with fail
 refine hT.mono ?_
 rintro e w1 ⟨rfl, hr1, hm1⟩
 obtain ⟨c0, c1, c2, c3, c4, c5, c6⟩ := hC
 replace c0 := Af.cell hm1 c0 hne
 replace c1 := Af.cell hm1 c1 hne
 replace c2 := Af.cell hm1 c2 hne
 replace c3 := Af.cell hm1 c3 hne
 replace c4 := Af.cell hm1 c4 hne
 replace c5 := Af.cell hm1 c5 hne
 replace c6 := Af.cell hm1 c6 hne
 have HM := hid (show Ax R w w1 from ((Ax.refl R w).alloc _).trans hm1)
 have HR1 := hid hr1
 clear hT hm1 hr1
 cases bb with
 | true =>
  go_wp2
  go_ret
  rw [<- HV.out, if_pos (by trivial)]
  exact ⟨p + 1, _, HL.out (by simp), rfl, rfl, HT.out.mod HM.out (by omega), HR1.out, HM.out⟩
 | false =>
  have hN := BN 91 w1
  go_wp2_with fail
  refine hN.mono ?_
  rintro e w2 ⟨rfl, hw⟩
  subst hw
  unfold CZ
  go_wp2
  go_ret
  rw [<- HV.out, if_neg (by simp)]
  exact ⟨rfl, HM.out⟩
theorem Ti (R : Nat) (v : Value) (ts : List AV) (p : Nat) (d : Int) (w : World) (hv : AO w v ts) (hl : ts.length <= 1000000) (hp : p < ts.length) (hR : RF w R v p) :
  Calls Tryz.prog 185 #[.pointer (some ⟨R, 0, none⟩), .int .i64 d] w (Cm w.heap.size R v ts (.ok (FO (ts.getD p ⟨0, [], 0⟩).str) (AP (ts.drop (p + 1)))) w) := by
 have HR := hid hR
 obtain ⟨A, ca, rfl, hA⟩ := hv
 obtain ⟨a, o, rfl, ha, a0, a1, a2⟩ := hA p hp
 have hne : a ≠ R := hR.ne a2 (by omega)
 have hm : Ax R w (w.setCell ⟨R, 1, none⟩ (.int .i64 ((p + 1 : Nat) : Int))) := (Ax.refl R w).set 1 _
 have hr1 := hR.set1 (p + 1)
 have b1 := Af.cell hm a1 hne
 obtain ⟨g0, g1, f0, f1⟩ := hR.cells
 obtain ⟨r0, r1, _, _⟩ := hr1.cells
 obtain ⟨s, hs⟩ : ∃ s, (ts.getD p ⟨0, [], 0⟩).str = s := ⟨_, rfl⟩
 rw [hs] at b1 |-
 have e1 : ((p + 1 : Nat) : Int) = (p : Int) + 1 := by omega
 have HM := hid hm
 have HR1 := hid hr1
 obtain ⟨n, hn⟩ : ∃ n, ts.length = n := ⟨_, rfl⟩
 have HN := hid hn
 rw [hn] at hl hp g0 r0
 rw [e1] at r0 r1 b1
 have hp1 : (p : Int) < (n : Int) := by omega
 clear hA a0 a1 a2 hs hm hr1 hR hn
 go_enter Tryz.func185, Tryz.ntmps185
 go_wp2
 go_quiet (fail)
 go_wp2
 go_ret
 exact ⟨p + 1, _, by have := HN.out; omega, rfl, rfl, Ao.ref _ _ s, HR1.out, HM.out.below (Ae (Bq _ _))⟩
theorem T7 (R : Nat) (v : Value) (ts : List AV) (p : Nat) (w : World) (hv : AO w v ts) (hl : ts.length <= 1000000) (hp : ¬ p < ts.length) (hp2 : p <= 1000000) (hR : RF w R v p) :
  Calls Tryz.prog 198 #[.pointer (some ⟨R, 0, none⟩)] w fun e w' => e = .returned (.tuple #[Ia CF, .iface 281 (.agg #[.int .i64 91])]) /\ Below w.heap.size w w' := by
 obtain ⟨A, ca, rfl, _⟩ := hv
 have hN : (w.alloc (.cells #[.int .i64 0, .int .i64 0, .string ⟨#[]⟩] 26)).heap[w.heap.size]? = some (.cells #[.int .i64 0, .int .i64 0, .string ⟨#[]⟩] 26) := Wn _ _
 have hB : Below w.heap.size w (w.alloc (.cells #[.int .i64 0, .int .i64 0, .string ⟨#[]⟩] 26)) := (Bq _ w).alloc Nr _
 have HB := hid hB
 have HN := hid hN
 obtain ⟨g0, g1, f0, f1⟩ := (hR.alloc (.cells #[.int .i64 0, .int .i64 0, .string ⟨#[]⟩] 26)).cells
 obtain ⟨c0, c1, c2, f3, f4, f5⟩ := Az hN
 obtain ⟨n, hn⟩ : ∃ n, ts.length = n := ⟨_, rfl⟩
 rw [hn] at hl hp g0
 have hp1 : ¬ (p : Int) < (n : Int) := by omega
 clear hR hn hN hB
 go_enter Tryz.func198, Tryz.ntmps198
 go_wp2
 go_quiet (fail)
 go_wp2
 refine bodyPost_ret (v := .tuple #[.agg #[.int .i64 0, .int .i64 0, .string ⟨#[]⟩], .iface 281 (.agg #[.int .i64 91])]) (by simp [results, Tryz.results198, go_sem, c0, c1, c2]) rfl ⟨rfl, Jw (Ae HB.out) Nr _ _ _⟩
structure KH (w : World) (R : Nat) (v : Value) (p : Nat) (ts : List AV) (w' : World) : Prop where
 ra : RF w' R v p
 md : Below w.heap.size w w'
 tk : AO w' v ts
 tb : Bz w'
 res : w'.heap[w.heap.size]? = some (.cells #[.int .i64 0, .int .i64 0, .string ⟨#[]⟩] 26)
theorem KH.step {w : World} {R : Nat} {v : Value} {p : Nat} {ts : List AV} {w1 w2 : World} (h : KH w R v p ts w1) (hb : Below w1.heap.size w1 w2) : KH w R v p ts w2 :=
 ⟨h.ra.below hb, h.md.trans (hb.mono h.md.size), h.tk.below hb, h.tb.below hb, Aa h.res hb⟩
theorem KH.new {w : World} {R : Nat} {v : Value} {p : Nat} {ts : List AV} (hR : RF w R v p) (hv : AO w v ts) (hT : Bz w) : KH w R v p ts (w.alloc (.cells #[.int .i64 0, .int .i64 0, .string ⟨#[]⟩] 26)) :=
 ⟨hR.alloc _, (Bq _ w).alloc Nr _, hv.alloc _, hT.below ((Bq _ w).alloc Nr _), Wn _ _⟩
theorem KH.alloc {w : World} {R : Nat} {v : Value} {p : Nat} {ts : List AV} {w1 : World} (h : KH w R v p ts w1) (o : Obj) : KH w R v p ts (w1.alloc o) := h.step ((Bq _ w1).alloc Nr o)
theorem KH.drewN {w : World} {R : Nat} {v : Value} {p : Nat} {ts : List AV} {w1 : World} (h : KH w R v p ts w1) (q : Nat) : KH w R v p ts (w1.drewN q) := h.step (Ae (Bq _ _))
theorem KH.drew {w : World} {R : Nat} {v : Value} {p : Nat} {ts : List AV} {w1 : World} (h : KH w R v p ts w1) : KH w R v p ts w1.drew := h.step (Bq _ _).drew
theorem KH.cells {w : World} {R : Nat} {p a o n ca : Nat} {ts : List AV} {w' : World} (h : KH w R (.slice (some ⟨a, o, none⟩) n ca) p ts w') (hp : p < ts.length) :
  w'.cell? ⟨R, 0, none⟩ = some (.slice (some ⟨a, o, none⟩) n ca) /\ w'.cell? ⟨R, 1, none⟩ = some (.int .i64 p) /\ w'.cell? ⟨a, o + p * 3, none⟩ = some (.int .i64 (ts.getD p ⟨0, [], 0⟩).kind) /\ w'.cell? ⟨a, o + p * 3 + 1, none⟩ = some (.string ⟨(ts.getD p ⟨0, [], 0⟩).str.toArray⟩) /\ w'.cell? ⟨a, o + p * 3 + 2, none⟩ = some (.int .i64 (ts.getD p ⟨0, [], 0⟩).at_) := by
 obtain ⟨A, c, e, hA⟩ := h.tk
 obtain ⟨a', o', e2, _, a0, a1, a2⟩ := hA p hp
 injection e with e3 e4 e5
 rw [e2] at e3
 injection e3 with e3
 injection e3 with e6 e7
 subst e6 e7
 exact ⟨h.ra.cells.1, h.ra.cells.2.1, a0, a1, a2⟩
theorem KH.put3 {w : World} {R : Nat} {v : Value} {p : Nat} {ts : List AV} (hR : RF w R v p) (hv : AO w v ts) (hT : Bz w) (w1 : World) (N : Nat) (v0 v1 v2 : Value) (h : KH w R v p ts w1) (hN : w.heap.size < N) :
  KH w R v p ts (((w1.setCell ⟨N, 0, none⟩ v0).setCell ⟨N, 1, none⟩ v1).setCell ⟨N, 2, none⟩ v2) := by
 have hb : Below w.heap.size w (((w1.setCell ⟨N, 0, none⟩ v0).setCell ⟨N, 1, none⟩ v1).setCell ⟨N, 2, none⟩ v2) := Jw h.md (by omega) _ _ _
 refine ⟨hR.below hb, hb, hv.below hb, hT.below hb, ?_⟩
 exact (Bh _ ⟨N, 2, none⟩ _ _ (by simp; omega)).trans ((Bh _ ⟨N, 1, none⟩ _ _ (by simp; omega)).trans ((Bh w1 ⟨N, 0, none⟩ _ _ (by simp; omega)).trans h.res))
theorem KH.lt {w : World} {R : Nat} {v : Value} {p : Nat} {ts : List AV} {w1 : World} (h : KH w R v p ts w1) : w.heap.size < w1.heap.size := (Gl h.res)
def VE (R : Nat) (v : Value) (p : Nat) (r : Sc × Int) (w : World) (e : Ending) (w' : World) : Prop :=
 (r.2 = 0 /\ e = .returned (.tuple #[Ia r.1, .nilIface]) /\ RF w' R v (p + 1) /\ Ax R w w') \/ (r.2 ≠ 0 /\ e = .returned (.tuple #[Ia CF, .iface 281 (.agg #[.int .i64 r.2])]) /\ RF w' R v p /\ Ax R w w')
theorem Pt {w X : World} {R : Nat} {v : Value} {p : Nat} {ts : List AV} (h : KH w R v p ts X) (hlt : R < w.heap.size) (v0 v1 v2 : Value) :
  ((((X.setCell ⟨R, 1, none⟩ (.int .i64 ((p : Int) + 1))).setCell ⟨w.heap.size, 0, none⟩ v0).setCell ⟨w.heap.size, 1, none⟩ v1).setCell ⟨w.heap.size, 2, none⟩ v2).cell? ⟨w.heap.size, 0, none⟩ = some v0 ∧
  ((((X.setCell ⟨R, 1, none⟩ (.int .i64 ((p : Int) + 1))).setCell ⟨w.heap.size, 0, none⟩ v0).setCell ⟨w.heap.size, 1, none⟩ v1).setCell ⟨w.heap.size, 2, none⟩ v2).cell? ⟨w.heap.size, 1, none⟩ = some v1 ∧
  ((((X.setCell ⟨R, 1, none⟩ (.int .i64 ((p : Int) + 1))).setCell ⟨w.heap.size, 0, none⟩ v0).setCell ⟨w.heap.size, 1, none⟩ v1).setCell ⟨w.heap.size, 2, none⟩ v2).cell? ⟨w.heap.size, 2, none⟩ = some v2 ∧
  RF ((((X.setCell ⟨R, 1, none⟩ (.int .i64 ((p : Int) + 1))).setCell ⟨w.heap.size, 0, none⟩ v0).setCell ⟨w.heap.size, 1, none⟩ v1).setCell ⟨w.heap.size, 2, none⟩ v2) R v (p + 1) ∧
  Ax R w ((((X.setCell ⟨R, 1, none⟩ (.int .i64 ((p : Int) + 1))).setCell ⟨w.heap.size, 0, none⟩ v0).setCell ⟨w.heap.size, 1, none⟩ v1).setCell ⟨w.heap.size, 2, none⟩ v2) := by
 have hne : w.heap.size ≠ R := by omega
 have e1 : ((p + 1 : Nat) : Int) = (p : Int) + 1 := by omega
 have hN : (X.setCell ⟨R, 1, none⟩ (.int .i64 ((p : Int) + 1))).heap[w.heap.size]? = some (.cells #[.int .i64 0, .int .i64 0, .string ⟨#[]⟩] 26) := (Bh X ⟨R, 1, none⟩ _ _ hne).trans h.res
 obtain ⟨c0, c1, c2, _⟩ := Rj hN v0 v1 v2
 have hr : RF (X.setCell ⟨R, 1, none⟩ (.int .i64 ((p : Int) + 1))) R v (p + 1) := by rw [<- e1]; exact h.ra.set1 (p + 1)
 refine ⟨c0, c1, c2, ?_, ((((Ax.of_below h.md).set 1 _).put (a := ⟨w.heap.size, 0, none⟩) Nr _).put (a := ⟨w.heap.size, 1, none⟩) Nr _).put (a := ⟨w.heap.size, 2, none⟩) Nr _⟩
 exact (Bh _ ⟨w.heap.size, 2, none⟩ _ _ (Ne.symm hne)).trans ((Bh _ ⟨w.heap.size, 1, none⟩ _ _ (Ne.symm hne)).trans ((Bh _ ⟨w.heap.size, 0, none⟩ _ _ (Ne.symm hne)).trans hr))
theorem Pu {w X : World} {R : Nat} {v : Value} {p : Nat} {ts : List AV} (h : KH w R v p ts X) (hlt : R < w.heap.size) (v0 v1 v2 : Value) :
  (((X.setCell ⟨w.heap.size, 0, none⟩ v0).setCell ⟨w.heap.size, 1, none⟩ v1).setCell ⟨w.heap.size, 2, none⟩ v2).cell? ⟨w.heap.size, 0, none⟩ = some v0 ∧
  (((X.setCell ⟨w.heap.size, 0, none⟩ v0).setCell ⟨w.heap.size, 1, none⟩ v1).setCell ⟨w.heap.size, 2, none⟩ v2).cell? ⟨w.heap.size, 1, none⟩ = some v1 ∧
  (((X.setCell ⟨w.heap.size, 0, none⟩ v0).setCell ⟨w.heap.size, 1, none⟩ v1).setCell ⟨w.heap.size, 2, none⟩ v2).cell? ⟨w.heap.size, 2, none⟩ = some v2 ∧
  RF (((X.setCell ⟨w.heap.size, 0, none⟩ v0).setCell ⟨w.heap.size, 1, none⟩ v1).setCell ⟨w.heap.size, 2, none⟩ v2) R v p ∧
  Ax R w (((X.setCell ⟨w.heap.size, 0, none⟩ v0).setCell ⟨w.heap.size, 1, none⟩ v1).setCell ⟨w.heap.size, 2, none⟩ v2) := by
 have hne : w.heap.size ≠ R := by omega
 obtain ⟨c0, c1, c2, _⟩ := Rj h.res v0 v1 v2
 refine ⟨c0, c1, c2, ?_, (((Ax.of_below h.md).put (a := ⟨w.heap.size, 0, none⟩) Nr _).put (a := ⟨w.heap.size, 1, none⟩) Nr _).put (a := ⟨w.heap.size, 2, none⟩) Nr _⟩
 exact (Bh _ ⟨w.heap.size, 2, none⟩ _ _ (Ne.symm hne)).trans ((Bh _ ⟨w.heap.size, 1, none⟩ _ _ (Ne.symm hne)).trans ((Bh _ ⟨w.heap.size, 0, none⟩ _ _ (Ne.symm hne)).trans h.ra))
theorem S7 (R : Nat) (v : Value) (ts : List AV) (p : Nat) (w : World) (hv : AO w v ts) (hl : ts.length <= 1000000) (hp : p < ts.length) (hR : RF w R v p) (hT : Bz w) (hs : (ts.getD p ⟨0, [], 0⟩).str.length <= 1000000) :
  Calls Tryz.prog 198 #[.pointer (some ⟨R, 0, none⟩)] w (VE R v p (Fg ⟨(ts.getD p ⟨0, [], 0⟩).kind, (ts.getD p ⟨0, [], 0⟩).str⟩) w) := by
 have hH0 := KH.new hR hv hT
 have HP := KH.put3 hR hv hT
 obtain ⟨A, ca, rfl, hA⟩ := hv
 obtain ⟨a, o, rfl, ha, a0, a1, a2⟩ := hA p hp
 have HC := fun w' (h : KH w R (.slice (some ⟨a, o, none⟩) ts.length ca) p ts w') => KH.cells h hp
 have hK := fun w' (h : KH w R (.slice (some ⟨a, o, none⟩) ts.length ca) p ts w') => Px (ts.getD p ⟨0, [], 0⟩).kind (ts.getD p ⟨0, [], 0⟩).at_ ⟨(ts.getD p ⟨0, [], 0⟩).str.toArray⟩ w' (by simpa [Lib.size_eq] using hs) h.tb
 obtain ⟨⟨k, s, at_⟩, hx⟩ : ∃ x, ts.getD p ⟨0, [], 0⟩ = x := ⟨_, rfl⟩
 rw [hx] at HC hK |-
 simp only [] at HC hK
 obtain ⟨g0, g1, f0, f1⟩ := (hR.alloc (.cells #[.int .i64 0, .int .i64 0, .string ⟨#[]⟩] 26)).cells
 obtain ⟨⟨⟨xk, xn, xs⟩, er⟩, hr⟩ : ∃ r, Fg ⟨k, s⟩ = r := ⟨_, rfl⟩
 obtain ⟨n, hn⟩ : ∃ n, ts.length = n := ⟨_, rfl⟩
 rw [hn] at hl hp g0 HC hK hH0 HP
 have HN := hid hn
 have hp1 : (p : Int) < (n : Int) := by omega
 have hge : decide ((n : Int) <= (p : Int)) = false := by simp; omega
 have hlt := hR.lt
 have hne1 : R ≠ w.heap.size := by omega
 have hne2 : R ≠ w.heap.size + 1 := by omega
 clear hA a0 a1 a2 hx hs
 rw [hr] at hK |-
 by_cases her : er = 0
 ·subst her
  go_enter Tryz.func198, Tryz.ntmps198
  go_wp2
  go_quiet (fail)
  go_wp2
  have hH := (hH0.drewN nq).drew
  unfold Ia at hK
  clear hR hT hn hr g0 g1 f0 f1 hge
  go_region_held3 (fun w' => w'.cell? ⟨R, 0, none⟩ = some (.slice (some ⟨a, o, none⟩) n ca) /\ w'.cell? ⟨R, 1, none⟩ = some (.int .i64 p) /\ w'.cell? ⟨a, o + p * 3, none⟩ = some (.int .i64 k) /\ w'.cell? ⟨a, o + p * 3 + 1, none⟩ = some (.string ⟨s.toArray⟩) /\ w'.cell? ⟨a, o + p * 3 + 2, none⟩ = some (.int .i64 at_)) (first | exact HC _ (by assumption) | exact HC _ (KH.alloc (by assumption) _) | exact HC _ (HP _ _ _ _ _ (by assumption) (by omega)) | exact HC _ (HP _ _ _ _ _ (KH.alloc (by assumption) _) (by omega))) (first | (go_at_call 136; refine (hK _ (by first | assumption | exact KH.alloc (by assumption) _)).mono ?_; rintro e wz ⟨rfl, hb⟩; have hz : KH w R (.slice (some ⟨a, o, none⟩) n ca) p ts wz := KH.step (by first | assumption | exact KH.alloc (by assumption) _) hb; have hzl := hz.lt; obtain ⟨c0, c1, c2, f3, f4, f5⟩ := Az hz.res; obtain ⟨_, rr1, ff0, ff1⟩ := hz.ra.cells; obtain ⟨_, _, _, ff3⟩ := (hz.ra.alloc (.cells #[.int .i64 xk, .int .i64 xn, .string xs] 26)).cells; try (have hnew := Aa (Wn _ (.cells #[.int .i64 0, .int .i64 0, .string ⟨#[]⟩] 26)) hb; obtain ⟨n0, n1, n2, m0, m1, m2⟩ := Az hnew; simp at n0 n1 n2 m0 m1 m2)) | fail)
  all_goals go_wp2
  ·obtain ⟨e0, e1, e2, hrf, hmd⟩ := Pt (hz.alloc (.cells #[.int .i64 xk, .int .i64 xn, .string xs] 26)) hlt (.int .i64 xk) (.int .i64 xn) (.string xs)
   refine bodyPost_ret (v := .tuple #[.agg #[.int .i64 xk, .int .i64 xn, .string xs], .nilIface]) (by simp [results, Tryz.results198, go_sem, e0, e1, e2]) rfl (.inl ⟨rfl, rfl, by rw [HN.out]; exact hrf, hmd⟩)
  ·obtain ⟨e0, e1, e2, hrf, hmd⟩ := Pt (HP wz (w.heap.size + 1) (.int .i64 xk) (.int .i64 xn) (.string xs) hz (by omega)) hlt (.int .i64 xk) (.int .i64 xn) (.string xs)
   refine bodyPost_ret (v := .tuple #[.agg #[.int .i64 xk, .int .i64 xn, .string xs], .nilIface]) (by simp [results, Tryz.results198, go_sem, e0, e1, e2]) rfl (.inl ⟨rfl, rfl, by rw [HN.out]; exact hrf, hmd⟩)
 ·have hee : (er != 0) = true := by simpa using her
  go_enter Tryz.func198, Tryz.ntmps198
  go_wp2
  go_quiet (fail)
  go_wp2
  have hH := (hH0.drewN nq).drew
  unfold Ia at hK
  clear hR hT hn hr g0 g1 f0 f1 hge
  go_region_held3 (fun w' => w'.cell? ⟨R, 0, none⟩ = some (.slice (some ⟨a, o, none⟩) n ca) /\ w'.cell? ⟨R, 1, none⟩ = some (.int .i64 p) /\ w'.cell? ⟨a, o + p * 3, none⟩ = some (.int .i64 k) /\ w'.cell? ⟨a, o + p * 3 + 1, none⟩ = some (.string ⟨s.toArray⟩) /\ w'.cell? ⟨a, o + p * 3 + 2, none⟩ = some (.int .i64 at_)) (first | exact HC _ (by assumption) | exact HC _ (KH.alloc (by assumption) _) | exact HC _ (HP _ _ _ _ _ (by assumption) (by omega)) | exact HC _ (HP _ _ _ _ _ (KH.alloc (by assumption) _) (by omega))) (first | (go_at_call 136; refine (hK _ (by first | assumption | exact KH.alloc (by assumption) _)).mono ?_; rintro e wz ⟨rfl, hb⟩; have hz : KH w R (.slice (some ⟨a, o, none⟩) n ca) p ts wz := KH.step (by first | assumption | exact KH.alloc (by assumption) _) hb; have hzl := hz.lt; obtain ⟨c0, c1, c2, f3, f4, f5⟩ := Az hz.res; obtain ⟨_, rr1, ff0, ff1⟩ := hz.ra.cells; obtain ⟨_, _, _, ff3⟩ := (hz.ra.alloc (.cells #[.int .i64 xk, .int .i64 xn, .string xs] 26)).cells; try (have hnew := Aa (Wn _ (.cells #[.int .i64 0, .int .i64 0, .string ⟨#[]⟩] 26)) hb; obtain ⟨n0, n1, n2, m0, m1, m2⟩ := Az hnew; simp at n0 n1 n2 m0 m1 m2)) | fail)
  all_goals go_wp2
  ·obtain ⟨e0, e1, e2, hrf, hmd⟩ := Pu hz hlt (.int .i64 0) (.int .i64 0) (.string ⟨#[]⟩)
   replace e0 := Ab e0 ((Bq _ _).alloc Nr (.cells #[.int .i64 xk, .int .i64 xn, .string xs] 26))
   replace e1 := Ab e1 ((Bq _ _).alloc Nr (.cells #[.int .i64 xk, .int .i64 xn, .string xs] 26))
   replace e2 := Ab e2 ((Bq _ _).alloc Nr (.cells #[.int .i64 xk, .int .i64 xn, .string xs] 26))
   refine bodyPost_ret (v := .tuple #[.agg #[.int .i64 0, .int .i64 0, .string ⟨#[]⟩], .iface 281 (.agg #[.int .i64 er])]) (by simp [results, Tryz.results198, go_sem, e0, e1, e2]) rfl (.inr ⟨her, rfl, by rw [HN.out]; exact hrf.alloc _, hmd.alloc _⟩)
  ·obtain ⟨e0, e1, e2, hrf, hmd⟩ := Pu (HP wz (w.heap.size + 1) (.int .i64 xk) (.int .i64 xn) (.string xs) hz (by omega)) hlt (.int .i64 0) (.int .i64 0) (.string ⟨#[]⟩)
   refine bodyPost_ret (v := .tuple #[.agg #[.int .i64 0, .int .i64 0, .string ⟨#[]⟩], .iface 281 (.agg #[.int .i64 er])]) (by simp [results, Tryz.results198, go_sem, e0, e1, e2]) rfl (.inr ⟨her, rfl, by rw [HN.out]; exact hrf, hmd⟩)
theorem LH {ts : List AV} {q : Nat} (h : q < ts.length) : AP (ts.drop q) = ⟨(ts.getD q ⟨0, [], 0⟩).kind, (ts.getD q ⟨0, [], 0⟩).str⟩ :: AP (ts.drop (q + 1)) := by
 unfold AP
 rw [List.drop_eq_getElem_cons h, List.map_cons, List.getD, List.getElem?_eq_getElem h]
 rfl
theorem Iv {ts : List AV} {q : Nat} (h : ¬ q < ts.length) : AP (ts.drop q) = [] := by
 rw [List.drop_eq_nil_of_le (by omega)]; rfl
theorem FA (ts : List AV) (q : Nat) : (AP (ts.drop q)).length = ts.length - q := by unfold AP; simp
theorem Fv (ts : List AV) (q : Nat) : (AP (ts.drop q)).tail = AP (ts.drop (q + 1)) := by
 unfold AP
 rw [<- List.map_tail, List.tail_drop]
theorem CT (ts : List AV) (q : Nat) {k : Int} (hk0 : k ≠ 0) : DT ts q [k] = decide (hk (AP (ts.drop q)) = k) := by
 unfold DT
 by_cases h : q < ts.length
 ·rw [LH h, Bool.eq_iff_iff]; simp [h, hk]
 ·rw [Iv h, decide_eq_false h, Bool.false_and]
  exact (decide_eq_false (fun e => hk0 e.symm)).symm
theorem Pv (ts : List AV) (q : Nat) {k j : Int} (hk0 : k ≠ 0) (hj0 : j ≠ 0) : DT ts q [k, j] = decide (hk (AP (ts.drop q)) = k \/ hk (AP (ts.drop q)) = j) := by
 unfold DT
 by_cases h : q < ts.length
 ·rw [LH h, Bool.eq_iff_iff]; simp [h, hk]
 ·rw [Iv h, decide_eq_false h, Bool.false_and]
  exact (decide_eq_false (fun e => by rcases e with e | e; exact hk0 e.symm; exact hj0 e.symm)).symm
inductive PR where
 | ok (x : Sc) (t : Tr) (rest : List Pc)
 | bad (e : Int)
def Ek (n d : Nat) : List Pc -> PR
 | [] => .bad 91
 | t :: r => if (B3 t).2 ≠ 0 then .bad (B3 t).2 else if hk r ≠ 6 then .bad 91 else if 24 < d then .bad 73 else
  if hk r.tail = 7 \/ hk r.tail = 11 then .ok (B3 t).1 CL r.tail else match AZ n d r.tail with
  | .bad e => .bad e
  | .ok v rest => .ok (B3 t).1 v rest
theorem K7 (n d : Nat) (l : List Pc) (ks : List Sc) (ts : List Tr) : BK (n + 1) d l ks ts = if hk l = 11 then .ok (BJ ks ts) l.tail else match Ek n (d + 1) l with
  | .bad e => .bad e
  | .ok x v rest => if hk rest = 7 then BK n d rest.tail (ks ++ [x]) (ts ++ [v]) else if hk rest = 11 then .ok (BJ (ks ++ [x]) (ts ++ [v])) rest.tail else .bad 91 := by
 conv => lhs; unfold BK
 split
 ·rfl
 ·cases l with
  | nil => rfl
  | cons t r =>
   simp only [Ek]
   by_cases h1 : (B3 t).2 = 0
   ·simp only [h1, ne_eq, not_true_eq_false, if_false]
    by_cases h2 : hk r = 6
    ·simp only [h2, not_true_eq_false, if_false]
     by_cases h3 : 24 < d + 1
     ·simp only [h3, if_true]
     ·simp only [h3, if_false]
      by_cases h4 : hk r.tail = 7
      ·simp [h4]
      ·by_cases h5 : hk r.tail = 11
       ·simp [h5]
       ·simp only [h4, h5, or_self, if_false]
        cases AZ n (d + 1) r.tail <;> rfl
    ·simp [h2]
   ·simp [h1]
theorem JT (n d : Nat) (l : List Pc) (acc : List Tr) : Cz (n + 1) d l acc = if hk l = 9 then .ok (BA acc) l.tail else match AZ n (d + 1) l with
  | .bad e => .bad e
  | .ok v rest => if hk rest = 7 then Cz n d rest.tail (acc ++ [v]) else if hk rest = 9 then .ok (BA (acc ++ [v])) rest.tail else .bad 91 := by
 conv => lhs; unfold Cz
 split
 ·rfl
 ·cases AZ n (d + 1) l <;> rfl
theorem J5 {n d : Nat} {l rest : List Pc} {t : Tr} (h : AZ n d l = .ok t rest) : rest.length < l.length := by
 obtain ⟨p, hp, hv, _⟩ := Sj h
 have := (Di hv).1
 rw [hp, List.length_append]
 have : 0 < p.length := List.length_pos_iff.2 this
 omega
theorem Qq {n d : Nat} {l rest : List Pc} {x : Sc} {t : Tr} (h : Ek n d l = .ok x t rest) : rest.length < l.length := by
 cases l with
 | nil => cases h
 | cons a r =>
  simp only [Ek] at h
  split at h
  ·cases h
  ·split at h
   ·cases h
   ·split at h
    ·cases h
    ·split at h
     ·injection h with _ _ h3
      rw [<- h3]; simp; omega
     ·cases hv : AZ n d r.tail with
      | bad e => rw [hv] at h; cases h
      | ok v rest' =>
       rw [hv] at h
       injection h with _ _ h3
       have := J5 hv
       rw [<- h3]; simp at this |-; omega
def FV : Value := .agg #[.int .i64 0, .string ⟨#[]⟩, .int .i64 0, .int .i64 0, .string ⟨#[]⟩, .slice none 0 0, .slice none 0 0]
theorem RW (v : Value) (w : World) : (Instr.typeAssert (.iface 308 v) 265 308 true).run Tryz.prog w = .ok (.tuple #[v, .bool true]) w := by kernel_rfl
theorem So (v : Value) (w : World) : (Instr.typeAssert (.iface 268 v) 265 308 true).run Tryz.prog w = .ok (.tuple #[.agg #[.int .i64 0, .string ⟨#[]⟩, .int .i64 0, .int .i64 0, .string ⟨#[]⟩, .slice none 0 0, .slice none 0 0], .bool false]) w := by kernel_rfl
theorem L3 (v : Value) (w : World) : (Instr.typeAssert (.iface 308 v) 265 268 true).run Tryz.prog w = .ok (.tuple #[.agg #[.nilIface], .bool false]) w := by kernel_rfl
theorem La (v : Value) (w : World) : (Instr.typeAssert (.iface 268 v) 265 268 true).run Tryz.prog w = .ok (.tuple #[v, .bool true]) w := by kernel_rfl
theorem OS (v : Value) (w : World) : (Instr.typeAssert (.iface 317 v) 265 268 true).run Tryz.prog w = .ok (.tuple #[.agg #[.nilIface], .bool false]) w := by kernel_rfl
theorem TU (v : Value) (w : World) : (Instr.typeAssert (.iface 317 v) 265 317 false).run Tryz.prog w = .ok v w := by kernel_rfl
theorem Ao.form {w : World} {S : Nat -> Prop} {t : Tr} {tv : Value} (h : Ao w S t tv) : ∃ (k : Int) (nm : ByteArray) (xk xn : Int) (xs : ByteArray) (KA : Option Addr) (kl kc : Nat) (A : Option Addr) (l c : Nat),
  tv = .agg #[.int .i64 k, .string nm, .int .i64 xk, .int .i64 xn, .string xs, .slice KA kl kc, .slice A l c] := by
 cases t with
 | mk k nm x ks ts =>
  unfold Ao at h
  obtain ⟨kv, A, cap, e, ⟨KA, kc, e2, _⟩, _, _⟩ := h
  exact ⟨k, nm, x.kind, x.num, x.str, KA, ks.length, kc, A, ts.length, cap, by rw [e, e2]⟩
structure Fx (ts : List AV) : Prop where
 len : ts.length <= 1000000
 str : ∀ q, q < ts.length -> (ts.getD q ⟨0, [], 0⟩).str.length <= 1000000
theorem Nj (R : Nat) (v : Value) (ts : List AV) (p : Nat) (d : Int) (w : World) (hx : Fx ts) (h : Rd w R v ts p) (hp : p < ts.length) :
  Calls Tryz.prog 183 #[.pointer (some ⟨R, 0, none⟩), .int .i64 d] w (Cm w.heap.size R v ts (if (B3 ⟨(ts.getD p ⟨0, [], 0⟩).kind, (ts.getD p ⟨0, [], 0⟩).str⟩).2 = 0 then .ok (EO (B3 ⟨(ts.getD p ⟨0, [], 0⟩).kind, (ts.getD p ⟨0, [], 0⟩).str⟩).1) (AP (ts.drop (p + 1))) else .bad (B3 ⟨(ts.getD p ⟨0, [], 0⟩).kind, (ts.getD p ⟨0, [], 0⟩).str⟩).2) w) := by
 have hK := S7 R v ts p w h.tk hx.len hp h.rf h.tb.tabs (hx.str p hp)
 rw [LM]
 obtain ⟨⟨⟨xk, xn, xs⟩, er⟩, hr⟩ : ∃ r, Fg ⟨(ts.getD p ⟨0, [], 0⟩).kind, (ts.getD p ⟨0, [], 0⟩).str⟩ = r := ⟨_, rfl⟩
 rw [hr] at hK |-
 clear hr
 by_cases her : er = 0
 ·subst her
  simp only [if_true]
  obtain ⟨r, hr⟩ : ∃ r, FR.ok (EO ⟨xk, xn, xs⟩) (AP (ts.drop (p + 1))) = r := ⟨_, rfl⟩
  rw [hr]
  have HV := hid hr
  clear hr
  go_enter Tryz.func183, Tryz.ntmps183
  go_wp2_with fail
  refine hK.mono ?_
  rintro e w1 (⟨_, rfl, hr1, hm1⟩ | ⟨h0, _⟩)
  case inr => exact absurd rfl h0
  unfold Ia
  have HR1 := hid hr1
  have HM1 := hid hm1
  clear hr1 hm1 hK
  go_wp2
  go_ret
  rw [<- HV.out]
  exact ⟨p + 1, _, by omega, rfl, rfl, Ao.one _ _ ⟨xk, xn, xs⟩, HR1.out.alloc _, HM1.out.alloc _⟩
 ·simp only [if_neg her]
  obtain ⟨r, hr⟩ : ∃ r, FR.bad er = r := ⟨_, rfl⟩
  rw [hr]
  have HV := hid hr
  clear hr
  go_enter Tryz.func183, Tryz.ntmps183
  go_wp2_with fail
  refine hK.mono ?_
  rintro e w1 (⟨h0, _⟩ | ⟨_, rfl, hr1, hm1⟩)
  case inl => exact absurd h0 her
  unfold Ia
  have HM1 := hid hm1
  clear hr1 hm1 hK
  go_wp2
  go_ret
  rw [<- HV.out]
  exact ⟨rfl, HM1.out.alloc _⟩
def Jb (n R : Nat) (v : Value) (ts : List AV) : Prop := ∀ (d q : Nat) (w : World), Rd w R v ts q -> q <= ts.length -> d <= 1000 -> 2 * (ts.length - q) + 1 <= n →
 Calls Tryz.prog 165 #[.pointer (some ⟨R, 0, none⟩), .int .i64 d] w (Cm w.heap.size R v ts (AZ n d (AP (ts.drop q))) w)
theorem Cm.less {N N' R : Nat} {v : Value} {ts : List AV} {r : FR} {w w0 : World} {e : Ending} {w' : World} (h : Cm N' R v ts r w0 e w') (hN : N <= N') (hm : Ax R w w0) : Cm N R v ts r w e w' := by
 cases r with
 | ok t rest =>
  obtain ⟨q, tv, h1, h2, h3, h4, h5, h6⟩ := h
  exact ⟨q, tv, h1, h2, h3, Au (fun b _ hb => Nat.le_trans hN hb) t tv h4, h5, hm.trans h6⟩
 | bad er => exact ⟨h.1, hm.trans h.2⟩
def NT (n d : Nat) (s : List UInt8) (r : List Pc) : FR := if hk r = 3 \/ hk r = 4 then .bad 91 else match AZ n d r with
 | .ok v rest => .ok (v.named s) rest
 | .bad e => .bad e
theorem Ox (n R : Nat) (v : Value) (ts : List AV) (p d : Nat) (w : World) (hV : Jb n R v ts) (hx : Fx ts) (h : Rd w R v ts p) (hp : p < ts.length) (hd : d <= 1000) (hn : 2 * (ts.length - (p + 1)) + 1 <= n) :
  Calls Tryz.prog 184 #[.pointer (some ⟨R, 0, none⟩), .int .i64 d] w (Cm w.heap.size R v ts (NT n d (ts.getD p ⟨0, [], 0⟩).str (AP (ts.drop (p + 1)))) w) := by
 have hI := fun (N cap : Nat) (fz : Nat × Nat) (wx : World) (hN : wx.heap.size = N) (hr : Rd wx R v ts (p + 1)) => DV N R v ts (p + 1) [3, 4] 2 cap fz wx hN rfl hr.tk hx.len (by have := hx.len; omega) (by omega) hr.rf
 rw [Pv _ _ (by decide) (by decide)] at hI
 have hVq := fun wx hr => hV d (p + 1) wx hr (by omega) hd hn
 have HR := hid h
 obtain ⟨A, ca, rfl, hA⟩ := h.tk
 obtain ⟨a, o, rfl, ha, a0, a1, a2⟩ := hA p hp
 have hm : Ax R w (w.setCell ⟨R, 1, none⟩ (.int .i64 ((p + 1 : Nat) : Int))) := (Ax.refl R w).set 1 _
 obtain ⟨g0, g1, f0, f1⟩ := h.rf.cells
 have hlt := h.rf.lt
 obtain ⟨s, hs⟩ : ∃ s, (ts.getD p ⟨0, [], 0⟩).str = s := ⟨_, rfl⟩
 rw [hs] at a1 |-
 have e1 : ((p + 1 : Nat) : Int) = (p : Int) + 1 := by omega
 obtain ⟨l, hl⟩ : ∃ l, AP (ts.drop (p + 1)) = l := ⟨_, rfl⟩
 rw [hl] at hI hVq |-
 have hlen := hx.len
 obtain ⟨tn, htn⟩ : ∃ n, ts.length = n := ⟨_, rfl⟩
 rw [htn] at hlen hp g0
 have HTN := hid htn
 have hp1 : (p : Int) < (tn : Int) := by omega
 obtain ⟨r, hr⟩ : ∃ r, NT n d s l = r := ⟨_, rfl⟩
 rw [hr]
 have HV := hid hr
 have HM := hid hm
 clear hr hl htn hA a0 a2 hm hs h hx
 have hsv := RW
 have hsb := So
 by_cases hkk : hk l = 3 \/ hk l = 4
 ·rw [decide_eq_true hkk] at hI
  go_enter Tryz.func184, Tryz.ntmps184
  go_wp2
  go_quiet (fail)
  have hq : Below w.heap.size w (w.drewN nq) := Ae (Bq _ _)
  have hm2 : Ax R w ((w.drewN nq).setCell ⟨R, 1, none⟩ (.int .i64 ((p : Int) + 1))) := (Ax.of_below hq).set 1 _
  have hr2 : RF ((w.drewN nq).setCell ⟨R, 1, none⟩ (.int .i64 ((p : Int) + 1))) R (.slice (some ⟨a, o, none⟩) tn ca) (p + 1) := by
   have := (HR.out.rf.below hq).set1 (p + 1)
   rw [e1, HTN.out] at this
   exact this
  have HR2 := hid (HR.out.mod (by rw [HTN.out]; exact hr2) hm2)
  have HM2 := hid hm2
  clear hq hm2 hr2 g0 a1 hVq
  go_wp2_with fail
  refine (hI w.heap.size _ _ ((w.drewN nq).setCell ⟨R, 1, none⟩ (.int .i64 ((p : Int) + 1))) (by simp) HR2.out).mono ?_
  rintro e w2 ⟨rfl, hb2⟩
  clear hI
  have hN := BN 91 w2
  go_wp2_with fail
  refine hN.mono ?_
  rintro e w3 ⟨rfl, hw⟩
  subst hw
  unfold CZ
  go_wp2
  go_ret
  rw [<- HV.out]
  unfold NT
  rw [if_pos hkk]
  exact ⟨rfl, HM2.out.below hb2⟩
 ·rw [decide_eq_false hkk] at hI
  go_enter Tryz.func184, Tryz.ntmps184
  go_wp2
  go_quiet (fail)
  have hq : Below w.heap.size w (w.drewN nq) := Ae (Bq _ _)
  have hm2 : Ax R w ((w.drewN nq).setCell ⟨R, 1, none⟩ (.int .i64 ((p : Int) + 1))) := (Ax.of_below hq).set 1 _
  have hr2 : RF ((w.drewN nq).setCell ⟨R, 1, none⟩ (.int .i64 ((p : Int) + 1))) R (.slice (some ⟨a, o, none⟩) tn ca) (p + 1) := by
   have := (HR.out.rf.below hq).set1 (p + 1)
   rw [e1, HTN.out] at this
   exact this
  have HR2 := hid (HR.out.mod (by rw [HTN.out]; exact hr2) hm2)
  have HM2 := hid hm2
  clear hq hm2 hr2 g0 a1
  go_wp2_with fail
  refine (hI w.heap.size _ _ ((w.drewN nq).setCell ⟨R, 1, none⟩ (.int .i64 ((p : Int) + 1))) (by simp) HR2.out).mono ?_
  rintro e w2 ⟨rfl, hb2⟩
  have HR3 := hid (HR2.out.below hb2)
  have HM3 := hid (HM2.out.below hb2)
  clear hI hb2
  go_wp2_with fail
  refine (hVq w2 HR3.out).mono ?_
  rintro e w3 hP
  clear hVq
  cases hv : AZ n d l with
  | ok t rest =>
   rw [hv] at hP
   obtain ⟨q, tv, hq, hrest, rfl, ht, hr4, hm4⟩ := hP
   have HT := hid ht
   obtain ⟨tk, tnm, xk, xn, xs, KA, kl, kc, B, bl, bc, rfl⟩ := ht.form
   have HT := hid ht
   have HF := hid (Ai hq (Ai hrest (Ai hr4 hm4)))
   obtain ⟨c0, c1, c2, c3, c4, c5, c6⟩ := IS w3 (.int .i64 tk) (.string tnm) (.int .i64 xk) (.int .i64 xn) (.string xs) (.slice KA kl kc) (.slice B bl bc) 308
   clear hq hrest hr4 hm4 ht
   have HB := hid ((Bq _ w3).alloc Nr (.cells #[.int .i64 tk, .string ⟨s.toArray⟩, .int .i64 xk, .int .i64 xn, .string xs, .slice KA kl kc, .slice B bl bc] 308))
   go_wp2
   go_ret
   rw [<- HV.out]
   unfold NT
   rw [if_neg hkk, hv]
   have hz := HM3.out.size
   exact ⟨q, _, HF.out.1, HF.out.2.1, rfl, ((Au (fun b _ hb => by omega) _ _ HT.out).name s).below HB.out, HF.out.2.2.1.below HB.out, (HM3.out.trans HF.out.2.2.2).below HB.out⟩
  | bad er =>
   rw [hv] at hP
   obtain ⟨rfl, hm4⟩ := hP
   unfold CZ
   have HM4 := hid hm4
   clear hm4
   go_wp2
   go_ret
   rw [<- HV.out]
   unfold NT
   rw [if_neg hkk, hv]
   exact ⟨rfl, (HM3.out.trans HM4.out).alloc _⟩
end
end Go.Proofs.YtaogfdffgdglkaaGreatDoor
