/- What is proved: a part of the walk of the program and of its plain laws; no condition beside those that each theorem names. -/
import Derived.Test.YtaogfdffgdglkaaGreatDoorYd
import Derived.Test.YtaogfdffgdglkaaGreatDoorYa
import Derived.LaidEql
import Derived.Stop.Asserts
import Derived.RowKitTokens
namespace Go.Proofs.YtaogfdffgdglkaaGreatDoor
open Go Go.RowKit Go.Lib
set_option linter.unusedSimpArgs false
set_option linter.unusedVariables false
section
set_option maxHeartbeats 4000000
open Go Go.RowKit Go.Extern.Stop Go.Stop Go.Extern
def Cb (w : World) : Prop := w.cell? ⟨0, 0, none⟩ = some (.iface 211 (.agg #[.pointer (some ⟨9, 51, none⟩)]))
theorem Cb.below {w w' : World} (h : Cb w) (hb : Below w.heap.size w w') : Cb w' := Ab h hb
theorem Fe (t : Addr) (w : World) : (ReflectliteValue.unpack (.iface 199 (.pointer (some t)))).run Tryz.prog w
  = .ok (.agg #[.pointer (some ⟨9, 199, none⟩), .pointer (some ⟨w.heap.size, 0, none⟩), .int .u64 150]) (w.alloc (.cells #[.pointer (some t)] 199)) := by kernel_rfl
theorem N0 (a : Addr) (w : World) : (ReflectliteValue.methodAny (ReflectliteValue.valueError "reflectlite.Value.Type" 0) (fun t _ _ _ => ReflectliteType.toType t) #[.agg #[.pointer (some ⟨9, 199, none⟩), .pointer (some a), .int .u64 150]]).run Tryz.prog w
  = .ok (.iface 211 (.agg #[.pointer (some ⟨9, 199, none⟩)])) w := by kernel_rfl
theorem DQ (n : Nat) (h : Value) (w : World) : (Go.method (n + 1) 211 (.agg #[h]) "Kind").run Tryz.prog w = .ok (260, h) w := by kernel_rfl
theorem Nh (w : World) : ((ReflectliteType.abiMethod fun t => (fun a : Nat => Value.int IntKind.u8 (a : Int)) <$> Rtype.kind t) #[.pointer (some ⟨9, 199, none⟩)]).run Tryz.prog w = .ok (.int .u8 22) w := by kernel_rfl
theorem Nd (w : World) : ((ReflectliteType.abiMethod fun t => (fun a : Nat => Value.int IntKind.u8 (a : Int)) <$> Rtype.kind t) #[.pointer (some ⟨9, 198, none⟩)]).run Tryz.prog w = .ok (.int .u8 25) w := by kernel_rfl
theorem Uo (z : Sem Value) (f : TypeId -> Addr -> Nat -> Nat -> Sem Value) (v : Value) :
  ReflectliteValue.method z f #[v] = (do match <- ReflectliteValue.parts v with | none => z | some (t, a, fl) => f t a fl (fl % 32)) := rfl
theorem Fa (a : Addr) (w : World) : (ReflectliteValue.parts (.agg #[.pointer (some ⟨9, 199, none⟩), .pointer (some a), .int .u64 150])).run Tryz.prog w = .ok (some (199, a, 150)) w := by kernel_rfl
theorem Js (a p : Addr) (W : World) (ha : W.cell? a = some (.pointer (some p))) :
  (ReflectliteValue.method (ReflectliteValue.valueError "reflectlite.Value.IsNil" 0) ReflectliteValue.isNil #[.agg #[.pointer (some ⟨9, 199, none⟩), .pointer (some a), .int .u64 150]]).run Tryz.prog W = .ok (.bool false) W := by
 rw [Uo]
 simp only [Sem.run_bind, Fa, Result.andThen]
 simp [ReflectliteValue.isNil, loadVar, isAgg, underlying, Tryz.underlying199, ha, Result.andThen]
theorem DH (n : Nat) (h : Value) (w : World) : (Go.method (n + 1) 211 (.agg #[h]) "Elem").run Tryz.prog w = .ok (278, .agg #[h]) w := by kernel_rfl
theorem BO (n : Nat) (h : Value) (w : World) : (Go.method (n + 1) 211 (.agg #[h]) "Implements").run Tryz.prog w = .ok (279, .agg #[h]) w := by kernel_rfl
theorem B5 (n : Nat) (h : Value) (w : World) : (Go.method (n + 1) 211 (.agg #[h]) "AssignableTo").run Tryz.prog w = .ok (276, .agg #[h]) w := by kernel_rfl
theorem MA (w : World) : (ReflectliteType.method ReflectliteType.elem #[.agg #[.pointer (some ⟨9, 199, none⟩)]]).run Tryz.prog w = .ok (.iface 211 (.agg #[.pointer (some ⟨9, 198, none⟩)])) w := by kernel_rfl
theorem Dr (w : World) : (ReflectliteType.relation "Implements" ReflectliteType.implements_ #[.agg #[.pointer (some ⟨9, 198, none⟩)], .iface 211 (.agg #[.pointer (some ⟨9, 51, none⟩)])]).run Tryz.prog w = .ok (.bool true) w := by kernel_rfl
theorem G0 (v : Value) (w : World) : (ReflectliteType.typeOf #[.iface 198 v]).run Tryz.prog w = .ok (.iface 211 (.agg #[.pointer (some ⟨9, 198, none⟩)])) w := by kernel_rfl
theorem Ds (w : World) : (ReflectliteType.relation "AssignableTo" ReflectliteType.assignableTo #[.agg #[.pointer (some ⟨9, 198, none⟩)], .iface 211 (.agg #[.pointer (some ⟨9, 198, none⟩)])]).run Tryz.prog w = .ok (.bool true) w := by kernel_rfl
theorem EV (e : Int) (w : World) : (ReflectliteValue.unpack (.iface 198 (.agg #[.int .i64 e]))).run Tryz.prog w
  = .ok (.agg #[.pointer (some ⟨9, 198, none⟩), .pointer (some ⟨w.heap.size, 0, none⟩), .int .u64 153]) (w.alloc (.cells #[.int .i64 e] 198)) := by kernel_rfl
theorem GQ (w : World) : (Rtype.elem? 199).run Tryz.prog w = .ok (some 198) w := by kernel_rfl
theorem V1 (p : Addr) (w : World) : (ReflectliteValue.mk 198 p ReflectliteValue.flagAddr).run Tryz.prog w = .ok (.agg #[.pointer (some ⟨9, 198, none⟩), .pointer (some p), .int .u64 409]) w := by kernel_rfl
theorem IW (a p : Addr) (W : World) (ha : W.cell? a = some (.pointer (some p))) :
  (ReflectliteValue.method (ReflectliteValue.valueError "reflectlite.Value.Elem" 0) ReflectliteValue.elem #[.agg #[.pointer (some ⟨9, 199, none⟩), .pointer (some a), .int .u64 150]]).run Tryz.prog W
   = .ok (.agg #[.pointer (some ⟨9, 198, none⟩), .pointer (some p), .int .u64 409]) W := by
 rw [Uo]
 simp only [Sem.run_bind, Fa, Result.andThen]
 simp [ReflectliteValue.elem, loadVar, isAgg, underlying, Tryz.underlying199, ha, Result.andThen, GQ, V1]
theorem VD (v x : Value) : ReflectliteValue.set #[v, x] = (do
  let (some (dst, a, fl), some (src, b, _)) := (<- ReflectliteValue.parts v, <- ReflectliteValue.parts x)
   | unsupported (.noEntry "extern/(internal/reflectlite.Value).Set.zeroValue")
  if fl / ReflectliteValue.flagAddr % 2 == 0 then unsupported (.noEntry "extern/(internal/reflectlite.Value).Set.unaddressable")
  let val <- loadVar src b
  if <- Rtype.directlyAssignable dst src then storeVar dst a val
  else if <- Rtype.implements dst src then
   if (<- Rtype.kind src) == 20 then
    match val with
    | .nilIface => unsupported (.noEntry "extern/reflectlite: a nil value of one interface type handed on as a value of another")
    | _ => storeVar dst a val
   else storeVar dst a (.iface src val)
  else panicString ("reflectlite.Set: value of type " ++ (<- Rtype.spelt src) ++ " is not assignable to type " ++ (<- Rtype.spelt dst))
  pure (.tuple #[])) := rfl
theorem Gn (a : Addr) (w : World) : (ReflectliteValue.parts (.agg #[.pointer (some ⟨9, 198, none⟩), .pointer (some a), .int .u64 409])).run Tryz.prog w = .ok (some (198, a, 409)) w := by kernel_rfl
theorem II (a : Addr) (w : World) : (ReflectliteValue.parts (.agg #[.pointer (some ⟨9, 198, none⟩), .pointer (some a), .int .u64 153])).run Tryz.prog w = .ok (some (198, a, 153)) w := by kernel_rfl
theorem Gq (w : World) : (Rtype.directlyAssignable 198 198).run Tryz.prog w = .ok true w := by kernel_rfl
theorem Il (w : World) : (sizeOf 198).run Tryz.prog w = .ok 1 w := by kernel_rfl
theorem I0 (w : World) : (isAgg 198).run Tryz.prog w = .ok true w := by kernel_rfl
theorem RE (ta b : Addr) (e : Int) (old : Value) (W : World) (hb : W.cell? b = some (.int .i64 e)) (ht : W.cell? ta = some old) (hf : W.frozen? ta = false) :
  (ReflectliteValue.set #[.agg #[.pointer (some ⟨9, 198, none⟩), .pointer (some ta), .int .u64 409], .agg #[.pointer (some ⟨9, 198, none⟩), .pointer (some b), .int .u64 153]]).run Tryz.prog W
   = .ok (.tuple #[]) (W.setCell ta (.int .i64 e)) := by
 rw [VD]
 simp only [Sem.run_bind, Gn, II, Result.andThen]
 have hld : (loadCells b 1).run Tryz.prog W = .ok #[.int .i64 e] W := by
  simp [loadCells, loadCellsFrom, Addr.add, hb, Result.andThen]
 have hst : (storeVar 198 ta (.agg #[.int .i64 e])).run Tryz.prog W = .ok () (W.setCell ta (.int .i64 e)) := by
  have hsc : (storeCells ta [.int .i64 e]).run Tryz.prog W = .ok () (W.setCell ta (.int .i64 e)) := by
   simp only [storeCells, Addr.add, Nat.add_zero, Sem.run_bind, if_true]
   rw [run_store Tryz.prog W ta _ _ (by rfl)]
   simp [ht, hf, Result.andThen]
  unfold storeVar
  simp only [Sem.run_bind, Il, Result.andThen]
  exact hsc
 simp [ReflectliteValue.flagAddr, loadVar, I0, Il, hld, Result.andThen, Gq, hst]
theorem J0 (e : Int) (t : Addr) (old : Value) (w : World) (hg : Cb w) (ht0 : w.cell? t = some old) (hf0 : w.frozen? t = false) :
  Calls Tryz.prog 43 #[.iface 198 (.agg #[.int .i64 e]), .iface 199 (.pointer (some t))] w fun ev w' => ev = .returned (.bool true) /\ w' = ((((w.alloc (.cells #[.pointer (some t)] 199)).alloc (.cells #[.pointer (some ⟨9, 199, none⟩), .pointer (some ⟨w.heap.size, 0, none⟩), .int .u64 150] 158)).alloc (.cells #[.pointer (some ⟨9, 199, none⟩), .pointer (some ⟨w.heap.size, 0, none⟩), .int .u64 150] 158)).alloc (.cells #[.int .i64 e] 198)).setCell t (.int .i64 e) := by
 have h6 := @run_callFunc_extern Tryz.prog 74 _ (fun args => ReflectliteValue.unpack (args.getD 0 (.tuple #[]))) Tryz.func74 (by kernel_rfl) (by kernel_rfl) (by kernel_rfl) (by kernel_rfl)
 have h7 := @run_callFunc_extern Tryz.prog 75 _ (ReflectliteValue.methodAny (ReflectliteValue.valueError "reflectlite.Value.Type" 0) (fun t _ _ _ => ReflectliteType.toType t)) Tryz.func75 (by kernel_rfl) (by kernel_rfl) (by kernel_rfl) (by kernel_rfl)
 have h8 := @run_callFunc_extern Tryz.prog 76 _ (ReflectliteValue.method (ReflectliteValue.valueError "reflectlite.Value.IsNil" 0) ReflectliteValue.isNil) Tryz.func76 (by kernel_rfl) (by kernel_rfl) (by kernel_rfl) (by kernel_rfl)
 have h27 := @run_callFunc_extern Tryz.prog 260 _ (ReflectliteType.abiMethod fun t => do pure (.int .u8 (<- Rtype.kind t))) Tryz.func260 (by kernel_rfl) (by kernel_rfl) (by kernel_rfl) (by kernel_rfl)
 have h37 := @run_callFunc_extern Tryz.prog 278 _ (ReflectliteType.method ReflectliteType.elem) Tryz.func278 (by kernel_rfl) (by kernel_rfl) (by kernel_rfl) (by kernel_rfl)
 have h38 := @run_callFunc_extern Tryz.prog 279 _ (ReflectliteType.relation "Implements" ReflectliteType.implements_) Tryz.func279 (by kernel_rfl) (by kernel_rfl) (by kernel_rfl) (by kernel_rfl)
 have h10 := @run_callFunc_extern Tryz.prog 114 _ (ReflectliteType.typeOf) Tryz.func114 (by kernel_rfl) (by kernel_rfl) (by kernel_rfl) (by kernel_rfl)
 have h35 := @run_callFunc_extern Tryz.prog 276 _ (ReflectliteType.relation "AssignableTo" ReflectliteType.assignableTo) Tryz.func276 (by kernel_rfl) (by kernel_rfl) (by kernel_rfl) (by kernel_rfl)
 have h11 := @run_callFunc_extern Tryz.prog 115 _ (ReflectliteValue.method (ReflectliteValue.valueError "reflectlite.Value.Elem" 0) ReflectliteValue.elem) Tryz.func115 (by kernel_rfl) (by kernel_rfl) (by kernel_rfl) (by kernel_rfl)
 have h12 := @run_callFunc_extern Tryz.prog 116 _ (ReflectliteValue.set) Tryz.func116 (by kernel_rfl) (by kernel_rfl) (by kernel_rfl) (by kernel_rfl)
 have tO := G0
 have mA := B5
 have a25 := Ds
 have v25 := EV
 have f6 := Fe
 have f7 := N0
 have mK := DQ
 have mE := DH
 have mI := BO
 have k27 := Nh
 have k25 := Nd
 have e27 := MA
 have i25 := Dr
 have n8 := Js ⟨w.heap.size, 0, none⟩ t ((w.alloc (.cells #[.pointer (some t)] 199)).alloc (.cells #[.pointer (some ⟨9, 199, none⟩), .pointer (some ⟨w.heap.size, 0, none⟩), .int .u64 150] 158)) (by simp)
 have hlt : 0 < w.heap.size := AS hg
 have hg2 : ((w.alloc (.cells #[.pointer (some t)] 199)).alloc (.cells #[.pointer (some ⟨9, 199, none⟩), .pointer (some ⟨w.heap.size, 0, none⟩), .int .u64 150] 158)).cell? ⟨0, 0, none⟩ = some (.iface 211 (.agg #[.pointer (some ⟨9, 51, none⟩)])) := by
  rw [World.cell?_alloc_lt _ _ ⟨0, 0, none⟩ (by simp <;> omega), World.cell?_alloc_lt _ _ ⟨0, 0, none⟩ hlt]; exact hg
 have htl : t.block < w.heap.size := by
  rcases Nat.lt_or_ge t.block w.heap.size with h | h
  ·exact h
  ·simp [World.cell?, Array.getElem?_eq_none h] at ht0
 have el := IW ⟨w.heap.size, 0, none⟩ t (((w.alloc (.cells #[.pointer (some t)] 199)).alloc (.cells #[.pointer (some ⟨9, 199, none⟩), .pointer (some ⟨w.heap.size, 0, none⟩), .int .u64 150] 158)).alloc (.cells #[.pointer (some ⟨9, 199, none⟩), .pointer (some ⟨w.heap.size, 0, none⟩), .int .u64 150] 158)) (by rw [World.cell?_alloc_lt _ _ ⟨w.heap.size, 0, none⟩ (by simp <;> omega)]; simp)
 have st := RE t ⟨w.heap.size + 1 + 1 + 1, 0, none⟩ e old ((((w.alloc (.cells #[.pointer (some t)] 199)).alloc (.cells #[.pointer (some ⟨9, 199, none⟩), .pointer (some ⟨w.heap.size, 0, none⟩), .int .u64 150] 158)).alloc (.cells #[.pointer (some ⟨9, 199, none⟩), .pointer (some ⟨w.heap.size, 0, none⟩), .int .u64 150] 158)).alloc (.cells #[.int .i64 e] 198))
  (by rw [World.cell?_alloc_at _ _ _ _ (by simp)]; rfl)
  (by rw [World.cell?_alloc_lt _ _ t (by simp; omega), World.cell?_alloc_lt _ _ t (by simp; omega), World.cell?_alloc_lt _ _ t (by simp; omega), World.cell?_alloc_lt _ _ t htl]; exact ht0)
  (by rw [World.frozen?_alloc_old _ _ t (by simp; omega), World.frozen?_alloc_old _ _ t (by simp; omega), World.frozen?_alloc_old _ _ t (by simp; omega), World.frozen?_alloc_old _ _ t (Nat.ne_of_lt htl)]; exact hf0)
 go_enter Tryz.func43, Tryz.ntmps43
 go_wp2
 refine wp_loop_rounds 1 ?_
 rw [rounds_succ]
 go_wp2
 go_ret
 exact ⟨rfl, rfl⟩
theorem told_any (e : Int) (w : World) (hg : Cb w) :
  Calls Tryz.prog 67 #[.iface 198 (.agg #[.int .i64 e])] w fun ev w' => ev = .returned (.int .i64 e) /\ Below w.heap.size w w' := by
 have b0 := Boxed.new w 198 (.int .i64 0)
 have hg1 : Cb (w.alloc (.cells #[.int .i64 0] 198)) := hg.below ((Bq _ w).alloc Nr _)
 have HG := hid hg1
 clear hg1 hg
 have hA := J0 e ⟨w.heap.size, 0, none⟩ (.int .i64 0) (w.alloc (.cells #[.int .i64 0] 198)) HG.out b0.cell b0.frozen
 go_enter Tryz.func67, Tryz.ntmps67
 go_wp2_with fail
 refine hA.mono ?_
 rintro ev w1 ⟨rfl, hw1⟩
 have c1 : w1.cell? ⟨w.heap.size, 0, none⟩ = some (.int .i64 e) := by
  rw [hw1]
  exact ((((((b0.alloc _).alloc _).alloc _).alloc _).set (.int .i64 e))).cell
 have hb1 : Below w.heap.size w w1 := by
  rw [hw1]
  exact (((((((Bq _ w).alloc Nr _).alloc (by simp) _).alloc (by simp; omega) _).alloc (by simp; omega) _).alloc (by simp; omega) _).setCell (p := ⟨w.heap.size, 0, none⟩) Nr _)
 clear hw1 hA b0
 go_wp2
 go_ret
 exact ⟨rfl, hb1⟩
end
end Go.Proofs.YtaogfdffgdglkaaGreatDoor
