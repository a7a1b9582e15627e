/- What is proved: errors.As at package tok's own error: the target gets the error's value; so its number is told. -/
import Derived.Test.YtiinnnbpbnojgaaGreatDoorQb
import Derived.LaidEql
import Derived.Stop.Asserts
import Derived.RowKitTokens
namespace Go.Proofs.YtiinnnbpbnojgaaGreatDoor
open Go Go.RowKit Go.Extern.Stop Go.Stop Go.Extern
set_option linter.unusedSimpArgs false
set_option linter.unusedVariables false

/-- The variable that errors.As asks, as its initialiser lays it. -/
def ErrTy (w : World) : Prop := w.cell? ⟨0, 0, none⟩ = some (.iface 258 (.agg #[.pointer (some ⟨9, 74, none⟩)]))
theorem ErrTy.below {w w' : World} (h : ErrTy w) (hb : Below w.heap.size w w') : ErrTy w' := cell_below h hb

theorem valueOfP (t : Addr) (w : World) : (ReflectliteValue.unpack (.iface 182 (.pointer (some t)))).run Tryz.prog w
    = .ok (.agg #[.pointer (some ⟨9, 182, none⟩), .pointer (some ⟨w.heap.size, 0, none⟩), .int .u64 150]) (w.alloc (.cells #[.pointer (some t)] 182)) := by kernel_rfl
theorem typeP (a : Addr) (w : World) : (ReflectliteValue.methodAny (ReflectliteValue.valueError "reflectlite.Value.Type" 0) (fun t _ _ _ => ReflectliteType.toType t) #[.agg #[.pointer (some ⟨9, 182, none⟩), .pointer (some a), .int .u64 150]]).run Tryz.prog w
    = .ok (.iface 258 (.agg #[.pointer (some ⟨9, 182, none⟩)])) w := by kernel_rfl
theorem methodKind (n : Nat) (h : Value) (w : World) : (Go.method (n + 1) 258 (.agg #[h]) "Kind").run Tryz.prog w = .ok (268, h) w := by kernel_rfl
theorem kindP (w : World) : ((ReflectliteType.abiMethod fun t => (fun a : Nat => Value.int IntKind.u8 (a : Int)) <$> Rtype.kind t) #[.pointer (some ⟨9, 182, none⟩)]).run Tryz.prog w = .ok (.int .u8 22) w := by kernel_rfl
theorem kindE (w : World) : ((ReflectliteType.abiMethod fun t => (fun a : Nat => Value.int IntKind.u8 (a : Int)) <$> Rtype.kind t) #[.pointer (some ⟨9, 181, none⟩)]).run Tryz.prog w = .ok (.int .u8 25) w := by kernel_rfl
theorem rlm (z : Sem Value) (f : TypeId → Addr → Nat → Nat → Sem Value) (v : Value) :
    ReflectliteValue.method z f #[v] = (do match ← ReflectliteValue.parts v with | none => z | some (t, a, fl) => f t a fl (fl % 32)) := rfl
theorem partsP (a : Addr) (w : World) : (ReflectliteValue.parts (.agg #[.pointer (some ⟨9, 182, none⟩), .pointer (some a), .int .u64 150])).run Tryz.prog w = .ok (some (182, a, 150)) w := by kernel_rfl
theorem isNilP (a p : Addr) (W : World) (ha : W.cell? a = some (.pointer (some p))) :
    (ReflectliteValue.method (ReflectliteValue.valueError "reflectlite.Value.IsNil" 0) ReflectliteValue.isNil #[.agg #[.pointer (some ⟨9, 182, none⟩), .pointer (some a), .int .u64 150]]).run Tryz.prog W = .ok (.bool false) W := by
  rw [rlm]
  simp only [Sem.run_bind, partsP, Result.andThen]
  simp [ReflectliteValue.isNil, loadVar, isAgg, underlying, Tryz.underlying182, ha, Result.andThen]
theorem methodElem (n : Nat) (h : Value) (w : World) : (Go.method (n + 1) 258 (.agg #[h]) "Elem").run Tryz.prog w = .ok (288, .agg #[h]) w := by kernel_rfl
theorem methodImplements (n : Nat) (h : Value) (w : World) : (Go.method (n + 1) 258 (.agg #[h]) "Implements").run Tryz.prog w = .ok (289, .agg #[h]) w := by kernel_rfl
theorem methodAssignableTo (n : Nat) (h : Value) (w : World) : (Go.method (n + 1) 258 (.agg #[h]) "AssignableTo").run Tryz.prog w = .ok (286, .agg #[h]) w := by kernel_rfl
theorem elemP (w : World) : (ReflectliteType.method ReflectliteType.elem #[.agg #[.pointer (some ⟨9, 182, none⟩)]]).run Tryz.prog w = .ok (.iface 258 (.agg #[.pointer (some ⟨9, 181, none⟩)])) w := by kernel_rfl
theorem implementsE (w : World) : (ReflectliteType.relation "Implements" ReflectliteType.implements_ #[.agg #[.pointer (some ⟨9, 181, none⟩)], .iface 258 (.agg #[.pointer (some ⟨9, 74, none⟩)])]).run Tryz.prog w = .ok (.bool true) w := by kernel_rfl
theorem typeOfE (v : Value) (w : World) : (ReflectliteType.typeOf #[.iface 181 v]).run Tryz.prog w = .ok (.iface 258 (.agg #[.pointer (some ⟨9, 181, none⟩)])) w := by kernel_rfl
theorem assignableE (w : World) : (ReflectliteType.relation "AssignableTo" ReflectliteType.assignableTo #[.agg #[.pointer (some ⟨9, 181, none⟩)], .iface 258 (.agg #[.pointer (some ⟨9, 181, none⟩)])]).run Tryz.prog w = .ok (.bool true) w := by kernel_rfl
theorem valueOfE (e : Int) (w : World) : (ReflectliteValue.unpack (.iface 181 (.agg #[.int .i64 e]))).run Tryz.prog w
    = .ok (.agg #[.pointer (some ⟨9, 181, none⟩), .pointer (some ⟨w.heap.size, 0, none⟩), .int .u64 153]) (w.alloc (.cells #[.int .i64 e] 181)) := by kernel_rfl
theorem elemOfP (w : World) : (Rtype.elem? 182).run Tryz.prog w = .ok (some 181) w := by kernel_rfl
theorem mkE (p : Addr) (w : World) : (ReflectliteValue.mk 181 p ReflectliteValue.flagAddr).run Tryz.prog w = .ok (.agg #[.pointer (some ⟨9, 181, none⟩), .pointer (some p), .int .u64 409]) w := by kernel_rfl
theorem elemVP (a p : Addr) (W : World) (ha : W.cell? a = some (.pointer (some p))) :
    (ReflectliteValue.method (ReflectliteValue.valueError "reflectlite.Value.Elem" 0) ReflectliteValue.elem #[.agg #[.pointer (some ⟨9, 182, none⟩), .pointer (some a), .int .u64 150]]).run Tryz.prog W
      = .ok (.agg #[.pointer (some ⟨9, 181, none⟩), .pointer (some p), .int .u64 409]) W := by
  rw [rlm]
  simp only [Sem.run_bind, partsP, Result.andThen]
  simp [ReflectliteValue.elem, loadVar, isAgg, underlying, Tryz.underlying182, ha, Result.andThen, elemOfP, mkE]
theorem rls (v x : Value) : ReflectliteValue.set #[v, x] = (do
    let (some (dst, a, fl), some (src, b, _)) := (← ReflectliteValue.parts v, ← ReflectliteValue.parts x)
      | unsupported (.noEntry "extern/(internal/reflectlite.Value).Set.zeroValue")
    if fl / ReflectliteValue.flagAddr % 2 == 0 then unsupported (.noEntry "extern/(internal/reflectlite.Value).Set.unaddressable")
    let val ← loadVar src b
    if ← Rtype.directlyAssignable dst src then storeVar dst a val
    else if ← Rtype.implements dst src then
      if (← Rtype.kind src) == 20 then
        match val with
        | .nilIface => unsupported (.noEntry "extern/reflectlite: a nil value of one interface type handed on as a value of another")
        | _ => storeVar dst a val
      else storeVar dst a (.iface src val)
    else panicString ("reflectlite.Set: value of type " ++ (← Rtype.spelt src) ++ " is not assignable to type " ++ (← Rtype.spelt dst))
    pure (.tuple #[])) := rfl
theorem partsEa (a : Addr) (w : World) : (ReflectliteValue.parts (.agg #[.pointer (some ⟨9, 181, none⟩), .pointer (some a), .int .u64 409])).run Tryz.prog w = .ok (some (181, a, 409)) w := by kernel_rfl
theorem partsE (a : Addr) (w : World) : (ReflectliteValue.parts (.agg #[.pointer (some ⟨9, 181, none⟩), .pointer (some a), .int .u64 153])).run Tryz.prog w = .ok (some (181, a, 153)) w := by kernel_rfl
theorem directE (w : World) : (Rtype.directlyAssignable 181 181).run Tryz.prog w = .ok true w := by kernel_rfl
theorem sizeE (w : World) : (sizeOf 181).run Tryz.prog w = .ok 1 w := by kernel_rfl
theorem isAggE (w : World) : (isAgg 181).run Tryz.prog w = .ok true w := by kernel_rfl
theorem setE (ta b : Addr) (e : Int) (old : Value) (W : World) (hb : W.cell? b = some (.int .i64 e)) (ht : W.cell? ta = some old) (hf : W.frozen? ta = false) :
    (ReflectliteValue.set #[.agg #[.pointer (some ⟨9, 181, none⟩), .pointer (some ta), .int .u64 409], .agg #[.pointer (some ⟨9, 181, none⟩), .pointer (some b), .int .u64 153]]).run Tryz.prog W
      = .ok (.tuple #[]) (W.setCell ta (.int .i64 e)) := by
  rw [rls]
  simp only [Sem.run_bind, partsEa, partsE, Result.andThen]
  have hld : (loadCells b 1).run Tryz.prog W = .ok #[.int .i64 e] W := by
    simp [loadCells, loadCellsFrom, Addr.add, hb, Result.andThen]
  have hst : (storeVar 181 ta (.agg #[.int .i64 e])).run Tryz.prog W = .ok () (W.setCell ta (.int .i64 e)) := by
    have hsc : (storeCells ta [.int .i64 e]).run Tryz.prog W = .ok () (W.setCell ta (.int .i64 e)) := by
      simp only [storeCells, Addr.add, Nat.add_zero, Sem.run_bind, if_true]
      rw [run_store Tryz.prog W ta _ _ (by rfl)]
      simp [ht, hf, Result.andThen]
    unfold storeVar
    simp only [Sem.run_bind, sizeE, Result.andThen]
    exact hsc
  simp [ReflectliteValue.flagAddr, loadVar, isAggE, sizeE, hld, Result.andThen, directE, hst]

set_option maxHeartbeats 4000000 in
theorem as_hit (e : Int) (t : Addr) (old : Value) (w : World) (hg : ErrTy w) (ht0 : w.cell? t = some old) (hf0 : w.frozen? t = false) :
    Calls Tryz.prog 65 #[.iface 181 (.agg #[.int .i64 e]), .iface 182 (.pointer (some t))] w fun ev w' => ev = .returned (.bool true) ∧ w' = ((((w.alloc (.cells #[.pointer (some t)] 182)).alloc (.cells #[.pointer (some ⟨9, 182, none⟩), .pointer (some ⟨w.heap.size, 0, none⟩), .int .u64 150] 202)).alloc (.cells #[.pointer (some ⟨9, 182, none⟩), .pointer (some ⟨w.heap.size, 0, none⟩), .int .u64 150] 202)).alloc (.cells #[.int .i64 e] 181)).setCell t (.int .i64 e) := by
  have h6 := @run_callFunc_extern Tryz.prog 105 _ (fun args => ReflectliteValue.unpack (args.getD 0 (.tuple #[]))) Tryz.func105 (by kernel_rfl) (by kernel_rfl) (by kernel_rfl) (by kernel_rfl)
  have h7 := @run_callFunc_extern Tryz.prog 106 _ (ReflectliteValue.methodAny (ReflectliteValue.valueError "reflectlite.Value.Type" 0) (fun t _ _ _ => ReflectliteType.toType t)) Tryz.func106 (by kernel_rfl) (by kernel_rfl) (by kernel_rfl) (by kernel_rfl)
  have h8 := @run_callFunc_extern Tryz.prog 107 _ (ReflectliteValue.method (ReflectliteValue.valueError "reflectlite.Value.IsNil" 0) ReflectliteValue.isNil) Tryz.func107 (by kernel_rfl) (by kernel_rfl) (by kernel_rfl) (by kernel_rfl)
  have h27 := @run_callFunc_extern Tryz.prog 268 _ (ReflectliteType.abiMethod fun t => do pure (.int .u8 (← Rtype.kind t))) Tryz.func268 (by kernel_rfl) (by kernel_rfl) (by kernel_rfl) (by kernel_rfl)
  have h37 := @run_callFunc_extern Tryz.prog 288 _ (ReflectliteType.method ReflectliteType.elem) Tryz.func288 (by kernel_rfl) (by kernel_rfl) (by kernel_rfl) (by kernel_rfl)
  have h38 := @run_callFunc_extern Tryz.prog 289 _ (ReflectliteType.relation "Implements" ReflectliteType.implements_) Tryz.func289 (by kernel_rfl) (by kernel_rfl) (by kernel_rfl) (by kernel_rfl)
  have h10 := @run_callFunc_extern Tryz.prog 151 _ (ReflectliteType.typeOf) Tryz.func151 (by kernel_rfl) (by kernel_rfl) (by kernel_rfl) (by kernel_rfl)
  have h35 := @run_callFunc_extern Tryz.prog 286 _ (ReflectliteType.relation "AssignableTo" ReflectliteType.assignableTo) Tryz.func286 (by kernel_rfl) (by kernel_rfl) (by kernel_rfl) (by kernel_rfl)
  have h11 := @run_callFunc_extern Tryz.prog 152 _ (ReflectliteValue.method (ReflectliteValue.valueError "reflectlite.Value.Elem" 0) ReflectliteValue.elem) Tryz.func152 (by kernel_rfl) (by kernel_rfl) (by kernel_rfl) (by kernel_rfl)
  have h12 := @run_callFunc_extern Tryz.prog 153 _ (ReflectliteValue.set) Tryz.func153 (by kernel_rfl) (by kernel_rfl) (by kernel_rfl) (by kernel_rfl)
  have tO := typeOfE
  have mA := methodAssignableTo
  have a25 := assignableE
  have v25 := valueOfE
  have f6 := valueOfP
  have f7 := typeP
  have mK := methodKind
  have mE := methodElem
  have mI := methodImplements
  have k27 := kindP
  have k25 := kindE
  have e27 := elemP
  have i25 := implementsE
  have n8 := isNilP ⟨w.heap.size, 0, none⟩ t ((w.alloc (.cells #[.pointer (some t)] 182)).alloc (.cells #[.pointer (some ⟨9, 182, none⟩), .pointer (some ⟨w.heap.size, 0, none⟩), .int .u64 150] 202)) (by simp)
  have hlt : 0 < w.heap.size := cell_lt hg
  have hg2 : ((w.alloc (.cells #[.pointer (some t)] 182)).alloc (.cells #[.pointer (some ⟨9, 182, none⟩), .pointer (some ⟨w.heap.size, 0, none⟩), .int .u64 150] 202)).cell? ⟨0, 0, none⟩ = some (.iface 258 (.agg #[.pointer (some ⟨9, 74, none⟩)])) := by
    rw [World.cell?_alloc_lt _ _ ⟨0, 0, none⟩ (by simp <;> omega), World.cell?_alloc_lt _ _ ⟨0, 0, none⟩ hlt]; exact hg
  have htl : t.block < w.heap.size := by
    rcases Nat.lt_or_ge t.block w.heap.size with h | h
    · exact h
    · simp [World.cell?, Array.getElem?_eq_none h] at ht0
  have el := elemVP ⟨w.heap.size, 0, none⟩ t (((w.alloc (.cells #[.pointer (some t)] 182)).alloc (.cells #[.pointer (some ⟨9, 182, none⟩), .pointer (some ⟨w.heap.size, 0, none⟩), .int .u64 150] 202)).alloc (.cells #[.pointer (some ⟨9, 182, none⟩), .pointer (some ⟨w.heap.size, 0, none⟩), .int .u64 150] 202)) (by rw [World.cell?_alloc_lt _ _ ⟨w.heap.size, 0, none⟩ (by simp <;> omega)]; simp)
  have st := setE t ⟨w.heap.size + 1 + 1 + 1, 0, none⟩ e old ((((w.alloc (.cells #[.pointer (some t)] 182)).alloc (.cells #[.pointer (some ⟨9, 182, none⟩), .pointer (some ⟨w.heap.size, 0, none⟩), .int .u64 150] 202)).alloc (.cells #[.pointer (some ⟨9, 182, none⟩), .pointer (some ⟨w.heap.size, 0, none⟩), .int .u64 150] 202)).alloc (.cells #[.int .i64 e] 181))
    (by rw [World.cell?_alloc_at _ _ _ _ (by simp)]; rfl)
    (by rw [World.cell?_alloc_lt _ _ t (by simp; omega), World.cell?_alloc_lt _ _ t (by simp; omega), World.cell?_alloc_lt _ _ t (by simp; omega), World.cell?_alloc_lt _ _ t htl]; exact ht0)
    (by rw [World.frozen?_alloc_old _ _ t (by simp; omega), World.frozen?_alloc_old _ _ t (by simp; omega), World.frozen?_alloc_old _ _ t (by simp; omega), World.frozen?_alloc_old _ _ t (Nat.ne_of_lt htl)]; exact hf0)
  go_enter Tryz.func65, Tryz.ntmps65
  go_wp2
  refine wp_loop_rounds 1 ?_
  rw [rounds_succ]
  go_wp2
  go_ret
  exact ⟨rfl, rfl⟩

theorem told_any (e : Int) (w : World) (hg : ErrTy w) :
    Calls Tryz.prog 57 #[.iface 181 (.agg #[.int .i64 e])] w fun ev w' => ev = .returned (.int .i64 e) ∧ Below w.heap.size w w' := by
  have b0 := Boxed.new w 181 (.int .i64 0)
  have hg1 : ErrTy (w.alloc (.cells #[.int .i64 0] 181)) := hg.below ((Below.refl _ w).alloc (Nat.le_refl _) _)
  have HG := hid hg1
  clear hg1 hg
  have hA := as_hit e ⟨w.heap.size, 0, none⟩ (.int .i64 0) (w.alloc (.cells #[.int .i64 0] 181)) HG.out b0.cell b0.frozen
  go_enter Tryz.func57, Tryz.ntmps57
  go_wp2_with fail
  refine hA.mono ?_
  rintro ev w1 ⟨rfl, hw1⟩
  have c1 : w1.cell? ⟨w.heap.size, 0, none⟩ = some (.int .i64 e) := by
    rw [hw1]
    exact ((((((b0.alloc _).alloc _).alloc _).alloc _).set (.int .i64 e))).cell
  have hb1 : Below w.heap.size w w1 := by
    rw [hw1]
    exact (((((((Below.refl _ w).alloc (Nat.le_refl _) _).alloc (by simp) _).alloc (by simp; omega) _).alloc (by simp; omega) _).alloc (by simp; omega) _).setCell (p := ⟨w.heap.size, 0, none⟩) (Nat.le_refl _) _)
  clear hw1 hA b0
  go_wp2
  go_ret
  exact ⟨rfl, hb1⟩
end Go.Proofs.YtiinnnbpbnojgaaGreatDoor
