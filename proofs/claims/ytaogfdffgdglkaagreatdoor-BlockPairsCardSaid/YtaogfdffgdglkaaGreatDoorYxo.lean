/- What is proved: a part of the walk of the program and of its plain laws; no condition beside those that each theorem names. -/
import Derived.Test.YtaogfdffgdglkaaGreatDoorYxc
import Derived.Test.YtaogfdffgdglkaaGreatDoorYa
namespace Go.Proofs.YtaogfdffgdglkaaGreatDoor
open Go Go.RowKit Go.Lib
set_option linter.unusedSimpArgs false
set_option linter.unusedVariables false
section
namespace Go.Proofs.YtaogfdffgdglkaaGreatDoor.Bw
open Go Go.RowKit Go.Extern.Stop Go.Stop Go.Extern
theorem Fe (t : Addr) (w : World) : (ReflectliteValue.unpack (.iface 113 (.pointer (some t)))).run Tryz.prog w
  = .ok (.agg #[.pointer (some ⟨9, 113, none⟩), .pointer (some ⟨w.heap.size, 0, none⟩), .int .u64 150]) (w.alloc (.cells #[.pointer (some t)] 113)) := by kernel_rfl
theorem N0 (a : Addr) (w : World) : (ReflectliteValue.methodAny (ReflectliteValue.valueError "reflectlite.Value.Type" 0) (fun t _ _ _ => ReflectliteType.toType t) #[.agg #[.pointer (some ⟨9, 113, none⟩), .pointer (some a), .int .u64 150]]).run Tryz.prog w
  = .ok (.iface 211 (.agg #[.pointer (some ⟨9, 113, none⟩)])) w := by kernel_rfl
theorem DQ (n : Nat) (h : Value) (w : World) : (Go.method (n + 1) 211 (.agg #[h]) "Kind").run Tryz.prog w = .ok (260, h) w := by kernel_rfl
theorem Nh (w : World) : ((ReflectliteType.abiMethod fun t => (fun a : Nat => Value.int IntKind.u8 (a : Int)) <$> Rtype.kind t) #[.pointer (some ⟨9, 113, none⟩)]).run Tryz.prog w = .ok (.int .u8 22) w := by kernel_rfl
theorem Nd (w : World) : ((ReflectliteType.abiMethod fun t => (fun a : Nat => Value.int IntKind.u8 (a : Int)) <$> Rtype.kind t) #[.pointer (some ⟨9, 105, none⟩)]).run Tryz.prog w = .ok (.int .u8 25) w := by kernel_rfl
theorem Uo (z : Sem Value) (f : TypeId -> Addr -> Nat -> Nat -> Sem Value) (v : Value) :
  ReflectliteValue.method z f #[v] = (do match <- ReflectliteValue.parts v with | none => z | some (t, a, fl) => f t a fl (fl % 32)) := rfl
theorem Fa (a : Addr) (w : World) : (ReflectliteValue.parts (.agg #[.pointer (some ⟨9, 113, none⟩), .pointer (some a), .int .u64 150])).run Tryz.prog w = .ok (some (113, a, 150)) w := by kernel_rfl
theorem Js (a p : Addr) (W : World) (ha : W.cell? a = some (.pointer (some p))) :
  (ReflectliteValue.method (ReflectliteValue.valueError "reflectlite.Value.IsNil" 0) ReflectliteValue.isNil #[.agg #[.pointer (some ⟨9, 113, none⟩), .pointer (some a), .int .u64 150]]).run Tryz.prog W = .ok (.bool false) W := by
 rw [Uo]
 simp only [Sem.run_bind, Fa, Result.andThen]
 simp [ReflectliteValue.isNil, loadVar, isAgg, underlying, Tryz.underlying113, ha, Result.andThen]
theorem DH (n : Nat) (h : Value) (w : World) : (Go.method (n + 1) 211 (.agg #[h]) "Elem").run Tryz.prog w = .ok (278, .agg #[h]) w := by kernel_rfl
theorem BO (n : Nat) (h : Value) (w : World) : (Go.method (n + 1) 211 (.agg #[h]) "Implements").run Tryz.prog w = .ok (279, .agg #[h]) w := by kernel_rfl
theorem B5 (n : Nat) (h : Value) (w : World) : (Go.method (n + 1) 211 (.agg #[h]) "AssignableTo").run Tryz.prog w = .ok (276, .agg #[h]) w := by kernel_rfl
theorem MA (w : World) : (ReflectliteType.method ReflectliteType.elem #[.agg #[.pointer (some ⟨9, 113, none⟩)]]).run Tryz.prog w = .ok (.iface 211 (.agg #[.pointer (some ⟨9, 105, none⟩)])) w := by kernel_rfl
theorem Dr (w : World) : (ReflectliteType.relation "Implements" ReflectliteType.implements_ #[.agg #[.pointer (some ⟨9, 105, none⟩)], .iface 211 (.agg #[.pointer (some ⟨9, 51, none⟩)])]).run Tryz.prog w = .ok (.bool true) w := by kernel_rfl
theorem G0 (v : Value) (w : World) : (ReflectliteType.typeOf #[.iface 105 v]).run Tryz.prog w = .ok (.iface 211 (.agg #[.pointer (some ⟨9, 105, none⟩)])) w := by kernel_rfl
theorem Ds (w : World) : (ReflectliteType.relation "AssignableTo" ReflectliteType.assignableTo #[.agg #[.pointer (some ⟨9, 105, none⟩)], .iface 211 (.agg #[.pointer (some ⟨9, 105, none⟩)])]).run Tryz.prog w = .ok (.bool true) w := by kernel_rfl
theorem EV (no e : Int) (w : World) : (ReflectliteValue.unpack (.iface 105 (.agg #[.int .i64 no, .int .i64 e]))).run Tryz.prog w
  = .ok (.agg #[.pointer (some ⟨9, 105, none⟩), .pointer (some ⟨w.heap.size, 0, none⟩), .int .u64 153]) (w.alloc (.cells #[.int .i64 no, .int .i64 e] 105)) := by kernel_rfl
theorem GQ (w : World) : (Rtype.elem? 113).run Tryz.prog w = .ok (some 105) w := by kernel_rfl
theorem V1 (p : Addr) (w : World) : (ReflectliteValue.mk 105 p ReflectliteValue.flagAddr).run Tryz.prog w = .ok (.agg #[.pointer (some ⟨9, 105, none⟩), .pointer (some p), .int .u64 409]) w := by kernel_rfl
theorem IW (a p : Addr) (W : World) (ha : W.cell? a = some (.pointer (some p))) :
  (ReflectliteValue.method (ReflectliteValue.valueError "reflectlite.Value.Elem" 0) ReflectliteValue.elem #[.agg #[.pointer (some ⟨9, 113, none⟩), .pointer (some a), .int .u64 150]]).run Tryz.prog W
   = .ok (.agg #[.pointer (some ⟨9, 105, none⟩), .pointer (some p), .int .u64 409]) W := by
 rw [Uo]
 simp only [Sem.run_bind, Fa, Result.andThen]
 simp [ReflectliteValue.elem, loadVar, isAgg, underlying, Tryz.underlying113, ha, Result.andThen, GQ, V1]
theorem VD (v x : Value) : ReflectliteValue.set #[v, x] = (do
  let (some (dst, a, fl), some (src, b, _)) := (<- ReflectliteValue.parts v, <- ReflectliteValue.parts x)
   | unsupported (.noEntry "extern/(internal/reflectlite.Value).Set.zeroValue")
  if fl / ReflectliteValue.flagAddr % 2 == 0 then unsupported (.noEntry "extern/(internal/reflectlite.Value).Set.unaddressable")
  let val <- loadVar src b
  if <- Rtype.directlyAssignable dst src then storeVar dst a val
  else if <- Rtype.implements dst src then
   if (<- Rtype.kind src) == 20 then
    match val with
    | .nilIface => unsupported (.noEntry "extern/reflectlite: a nil value of one interface type handed on as a value of another")
    | _ => storeVar dst a val
   else storeVar dst a (.iface src val)
  else panicString ("reflectlite.Set: value of type " ++ (<- Rtype.spelt src) ++ " is not assignable to type " ++ (<- Rtype.spelt dst))
  pure (.tuple #[])) := rfl
theorem Gn (a : Addr) (w : World) : (ReflectliteValue.parts (.agg #[.pointer (some ⟨9, 105, none⟩), .pointer (some a), .int .u64 409])).run Tryz.prog w = .ok (some (105, a, 409)) w := by kernel_rfl
theorem II (a : Addr) (w : World) : (ReflectliteValue.parts (.agg #[.pointer (some ⟨9, 105, none⟩), .pointer (some a), .int .u64 153])).run Tryz.prog w = .ok (some (105, a, 153)) w := by kernel_rfl
theorem Gq (w : World) : (Rtype.directlyAssignable 105 105).run Tryz.prog w = .ok true w := by kernel_rfl
theorem Il (w : World) : (sizeOf 105).run Tryz.prog w = .ok 2 w := by kernel_rfl
theorem I0 (w : World) : (isAgg 105).run Tryz.prog w = .ok true w := by kernel_rfl
theorem RE (tb b : Nat) (no e : Int) (o0 o1 : Value) (W : World) (hb0 : W.cell? ⟨b, 0, none⟩ = some (.int .i64 no)) (hb1 : W.cell? ⟨b, 1, none⟩ = some (.int .i64 e)) {ty : TypeId} (hX : W.heap[tb]? = some (.cells #[o0, o1] ty)) :
  (ReflectliteValue.set #[.agg #[.pointer (some ⟨9, 105, none⟩), .pointer (some ⟨tb, 0, none⟩), .int .u64 409], .agg #[.pointer (some ⟨9, 105, none⟩), .pointer (some ⟨b, 0, none⟩), .int .u64 153]]).run Tryz.prog W
   = .ok (.tuple #[]) ((W.setCell ⟨tb, 0, none⟩ (.int .i64 no)).setCell ⟨tb, 1, none⟩ (.int .i64 e)) := by
 rw [VD]
 simp only [Sem.run_bind, Gn, II, Result.andThen]
 have hld : (loadCells ⟨b, 0, none⟩ 2).run Tryz.prog W = .ok #[.int .i64 no, .int .i64 e] W := by
  simp [loadCells, loadCellsFrom, Addr.add, hb0, hb1, Result.andThen]
 have hst : (storeVar 105 ⟨tb, 0, none⟩ (.agg #[.int .i64 no, .int .i64 e])).run Tryz.prog W = .ok () ((W.setCell ⟨tb, 0, none⟩ (.int .i64 no)).setCell ⟨tb, 1, none⟩ (.int .i64 e)) := by
  have hsc : (storeCells ⟨tb, 0, none⟩ [.int .i64 no, .int .i64 e]).run Tryz.prog W = .ok () ((W.setCell ⟨tb, 0, none⟩ (.int .i64 no)).setCell ⟨tb, 1, none⟩ (.int .i64 e)) := by
   obtain ⟨ht0, _, hf0, _⟩ := Rb hX
   obtain ⟨_, h1, _, h2⟩ := Rb (heap_setCell_same W tb 0 _ _ (.int .i64 no) hX)
   simp only [storeCells, Addr.add, Nat.add_zero, Nat.zero_add, Sem.run_bind, if_true]
   rw [run_store Tryz.prog W ⟨tb, 0, none⟩ _ _ (by rfl)]
   simp only [ht0, hf0, Result.andThen, Bool.false_eq_true, if_false, Nat.one_ne_zero]
   rw [run_store Tryz.prog _ ⟨tb, 1, none⟩ _ _ (by rfl)]
   simp [h1, h2, Result.andThen]
  unfold storeVar
  simp only [Sem.run_bind, Il, Result.andThen]
  exact hsc
 simp [ReflectliteValue.flagAddr, loadVar, I0, Il, hld, Result.andThen, Gq, hst]
theorem J0 (no e : Int) (tb : Nat) (o0 o1 : Value) (w : World) (hg : Cb w) {ty : TypeId} (hX : w.heap[tb]? = some (.cells #[o0, o1] ty)) :
  Calls Tryz.prog 43 #[.iface 105 (.agg #[.int .i64 no, .int .i64 e]), .iface 113 (.pointer (some ⟨tb, 0, none⟩))] w fun ev w' => ev = .returned (.bool true) /\ w' = (((((w.alloc (.cells #[.pointer (some ⟨tb, 0, none⟩)] 113)).alloc (.cells #[.pointer (some ⟨9, 113, none⟩), .pointer (some ⟨w.heap.size, 0, none⟩), .int .u64 150] 158)).alloc (.cells #[.pointer (some ⟨9, 113, none⟩), .pointer (some ⟨w.heap.size, 0, none⟩), .int .u64 150] 158)).alloc (.cells #[.int .i64 no, .int .i64 e] 105)).setCell ⟨tb, 0, none⟩ (.int .i64 no)).setCell ⟨tb, 1, none⟩ (.int .i64 e) := by
 have h6 := @run_callFunc_extern Tryz.prog 74 _ (fun args => ReflectliteValue.unpack (args.getD 0 (.tuple #[]))) Tryz.func74 (by kernel_rfl) (by kernel_rfl) (by kernel_rfl) (by kernel_rfl)
 have h7 := @run_callFunc_extern Tryz.prog 75 _ (ReflectliteValue.methodAny (ReflectliteValue.valueError "reflectlite.Value.Type" 0) (fun t _ _ _ => ReflectliteType.toType t)) Tryz.func75 (by kernel_rfl) (by kernel_rfl) (by kernel_rfl) (by kernel_rfl)
 have h8 := @run_callFunc_extern Tryz.prog 76 _ (ReflectliteValue.method (ReflectliteValue.valueError "reflectlite.Value.IsNil" 0) ReflectliteValue.isNil) Tryz.func76 (by kernel_rfl) (by kernel_rfl) (by kernel_rfl) (by kernel_rfl)
 have h27 := @run_callFunc_extern Tryz.prog 260 _ (ReflectliteType.abiMethod fun t => do pure (.int .u8 (<- Rtype.kind t))) Tryz.func260 (by kernel_rfl) (by kernel_rfl) (by kernel_rfl) (by kernel_rfl)
 have h37 := @run_callFunc_extern Tryz.prog 278 _ (ReflectliteType.method ReflectliteType.elem) Tryz.func278 (by kernel_rfl) (by kernel_rfl) (by kernel_rfl) (by kernel_rfl)
 have h38 := @run_callFunc_extern Tryz.prog 279 _ (ReflectliteType.relation "Implements" ReflectliteType.implements_) Tryz.func279 (by kernel_rfl) (by kernel_rfl) (by kernel_rfl) (by kernel_rfl)
 have h10 := @run_callFunc_extern Tryz.prog 114 _ (ReflectliteType.typeOf) Tryz.func114 (by kernel_rfl) (by kernel_rfl) (by kernel_rfl) (by kernel_rfl)
 have h35 := @run_callFunc_extern Tryz.prog 276 _ (ReflectliteType.relation "AssignableTo" ReflectliteType.assignableTo) Tryz.func276 (by kernel_rfl) (by kernel_rfl) (by kernel_rfl) (by kernel_rfl)
 have h11 := @run_callFunc_extern Tryz.prog 115 _ (ReflectliteValue.method (ReflectliteValue.valueError "reflectlite.Value.Elem" 0) ReflectliteValue.elem) Tryz.func115 (by kernel_rfl) (by kernel_rfl) (by kernel_rfl) (by kernel_rfl)
 have h12 := @run_callFunc_extern Tryz.prog 116 _ (ReflectliteValue.set) Tryz.func116 (by kernel_rfl) (by kernel_rfl) (by kernel_rfl) (by kernel_rfl)
 have tO := G0
 have mA := B5
 have a25 := Ds
 have v25 := EV
 have f6 := Fe
 have f7 := N0
 have mK := DQ
 have mE := DH
 have mI := BO
 have k27 := Nh
 have k25 := Nd
 have e27 := MA
 have i25 := Dr
 have n8 := Js ⟨w.heap.size, 0, none⟩ ⟨tb, 0, none⟩ ((w.alloc (.cells #[.pointer (some ⟨tb, 0, none⟩)] 113)).alloc (.cells #[.pointer (some ⟨9, 113, none⟩), .pointer (some ⟨w.heap.size, 0, none⟩), .int .u64 150] 158)) (by simp)
 have hlt : 0 < w.heap.size := AS hg
 have hg2 : ((w.alloc (.cells #[.pointer (some ⟨tb, 0, none⟩)] 113)).alloc (.cells #[.pointer (some ⟨9, 113, none⟩), .pointer (some ⟨w.heap.size, 0, none⟩), .int .u64 150] 158)).cell? ⟨0, 0, none⟩ = some (.iface 211 (.agg #[.pointer (some ⟨9, 51, none⟩)])) := by
  rw [World.cell?_alloc_lt _ _ ⟨0, 0, none⟩ (by simp <;> omega), World.cell?_alloc_lt _ _ ⟨0, 0, none⟩ hlt]; exact hg
 have htl : tb < w.heap.size := (Gl hX)
 have el := IW ⟨w.heap.size, 0, none⟩ ⟨tb, 0, none⟩ (((w.alloc (.cells #[.pointer (some ⟨tb, 0, none⟩)] 113)).alloc (.cells #[.pointer (some ⟨9, 113, none⟩), .pointer (some ⟨w.heap.size, 0, none⟩), .int .u64 150] 158)).alloc (.cells #[.pointer (some ⟨9, 113, none⟩), .pointer (some ⟨w.heap.size, 0, none⟩), .int .u64 150] 158)) (by rw [World.cell?_alloc_lt _ _ ⟨w.heap.size, 0, none⟩ (by simp <;> omega)]; simp)
 have st := RE tb (w.heap.size + 1 + 1 + 1) no e o0 o1 ((((w.alloc (.cells #[.pointer (some ⟨tb, 0, none⟩)] 113)).alloc (.cells #[.pointer (some ⟨9, 113, none⟩), .pointer (some ⟨w.heap.size, 0, none⟩), .int .u64 150] 158)).alloc (.cells #[.pointer (some ⟨9, 113, none⟩), .pointer (some ⟨w.heap.size, 0, none⟩), .int .u64 150] 158)).alloc (.cells #[.int .i64 no, .int .i64 e] 105))
  (by rw [World.cell?_alloc_at _ _ _ _ (by simp)]; rfl) (by rw [World.cell?_alloc_at _ _ _ _ (by simp)]; rfl)
  (Aa (Aa (Aa (Aa hX ((Bq _ _).alloc Nr _)) ((Bq _ _).alloc Nr _)) ((Bq _ _).alloc Nr _)) ((Bq _ _).alloc Nr _))
 clear hX
 go_enter Tryz.func43, Tryz.ntmps43
 go_wp2
 refine wp_loop_rounds 1 ?_
 rw [rounds_succ]
 go_wp2
 go_ret
 exact ⟨rfl, rfl⟩
theorem told_any (no e : Int) (w : World) (hg : Cb w) :
  Calls Tryz.prog 22 #[.iface 105 (.agg #[.int .i64 no, .int .i64 e])] w fun ev w' => ev = .returned (.tuple #[.int .i64 no, .int .i64 e]) /\ Below w.heap.size w w' := by
 have hX := Wn w (.cells #[.int .i64 0, .int .i64 0] 105)
 have hg1 : Cb (w.alloc (.cells #[.int .i64 0, .int .i64 0] 105)) := hg.below ((Bq _ w).alloc Nr _)
 have HG := hid hg1
 clear hg1 hg
 have hA := J0 no e w.heap.size (.int .i64 0) (.int .i64 0) (w.alloc (.cells #[.int .i64 0, .int .i64 0] 105)) HG.out hX
 go_enter Tryz.func22, Tryz.ntmps22
 go_wp2_with fail
 refine hA.mono ?_
 rintro ev w1 ⟨rfl, hw1⟩
 have hX1 : w1.heap[w.heap.size]? = some (.cells #[.int .i64 no, .int .i64 e] 105) := by
  have h4 := Aa (Aa (Aa (Aa hX ((Bq _ _).alloc Nr (.cells #[.pointer (some ⟨w.heap.size, 0, none⟩)] 113))) ((Bq _ _).alloc Nr (.cells #[.pointer (some ⟨9, 113, none⟩), .pointer (some ⟨(w.alloc (.cells #[.int .i64 0, .int .i64 0] 105)).heap.size, 0, none⟩), .int .u64 150] 158))) ((Bq _ _).alloc Nr (.cells #[.pointer (some ⟨9, 113, none⟩), .pointer (some ⟨(w.alloc (.cells #[.int .i64 0, .int .i64 0] 105)).heap.size, 0, none⟩), .int .u64 150] 158))) ((Bq _ _).alloc Nr (.cells #[.int .i64 no, .int .i64 e] 105))
  have := heap_setCell_same _ w.heap.size 1 _ _ (.int .i64 e) (heap_setCell_same _ w.heap.size 0 _ _ (.int .i64 no) h4)
  rw [hw1]
  exact this
 have hb1 : Below w.heap.size w w1 := by
  rw [hw1]
  exact ((((((((Bq _ w).alloc Nr _).alloc (by simp) _).alloc (by simp; omega) _).alloc (by simp; omega) _).alloc (by simp; omega) _).setCell (p := ⟨w.heap.size, 0, none⟩) Nr _).setCell (p := ⟨w.heap.size, 1, none⟩) Nr _)
 obtain ⟨c0, c1, _, _⟩ := Rb hX1
 clear hw1 hA hX hX1
 go_wp2
 go_quiet (fail)
 go_wp2
 exact bodyPost_ret (v := .tuple #[.int .i64 no, .int .i64 e]) (by simp [results, Tryz.results22, go_sem]) rfl ⟨rfl, by first | exact hb1 | exact Ae hb1⟩
end Go.Proofs.YtaogfdffgdglkaaGreatDoor.Bw
end
end Go.Proofs.YtaogfdffgdglkaaGreatDoor
