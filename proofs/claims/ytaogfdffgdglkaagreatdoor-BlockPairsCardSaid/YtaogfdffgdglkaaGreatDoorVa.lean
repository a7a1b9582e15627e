/- What is proved: a part of the walk of the program and of its plain laws; no condition beside those that each theorem names. -/
import Derived.Test.YtaogfdffgdglkaaGreatDoorYxh
import Derived.Test.YtaogfdffgdglkaaGreatDoorYxp
import Derived.Test.YtaogfdffgdglkaaGreatDoorYa
import Derived.Test.YtaogfdffgdglkaaGreatDoorYt
import Derived.Test.YtaogfdffgdglkaaGreatDoorYxl
namespace Go.Proofs.YtaogfdffgdglkaaGreatDoor
open Go Go.RowKit Go.Lib
set_option linter.unusedSimpArgs false
set_option linter.unusedVariables false
section
attribute [local go_sem ↓] Go.wp_at_zero Go.wp_at_succ
theorem BU.below {w w' : World} {B : Nat} {v : Value} {ts : List Sc} (h : BU w B v ts) (hb : Below w.heap.size w w') : BU w' B v ts := Cf h hb
theorem BU.rm {w : World} {B n : Nat} {v : Value} {ts : List Sc} (h : BU w B v ts) (hn : ts.length = n) : VZ v n := by
 subst hn
 rcases h.2 with ⟨rfl, h0⟩ | ⟨g, cap, cur, rfl, _, _, hnc, _⟩
 ·exact ⟨none, 0, by rw [h0], by omega⟩
 ·exact ⟨_, cap, rfl, hnc⟩
def IR (w : World) (N : Nat) (u : Value) (ys : List Sc) : Prop :=
 (u = .slice none 0 0 /\ ys = []) \/ ∃ b o c, u = .slice (some ⟨b, o, none⟩) ys.length c /\ b < N /\ ∀ j x, (ys.flatMap A6)[j]? = some x -> w.cell? ⟨b, o + j, none⟩ = some x
theorem IR.below {w w' : World} {N : Nat} {u : Value} {ys : List Sc} (h : IR w N u ys) (hb : Below N w w') : IR w' N u ys := by
 rcases h with h | ⟨b, o, c, hu, hN, hc⟩
 ·exact .inl h
 ·exact .inr ⟨b, o, c, hu, hN, fun j x hx => (hb.cell (p := ⟨b, o + j, none⟩) hN).trans (hc j x hx)⟩
theorem IR.lit {w : World} {b N : Nat} {k p : Int} {s : ByteArray} {ty : TypeId} (h : w.heap[b]? = some (.cells #[.int .i64 k, .int .i64 p, .string s] ty)) (hN : b < N) : IR w N (.slice (some ⟨b, 0, none⟩) 1 1) [⟨k, p, s⟩] := by
 refine .inr ⟨b, 0, 1, rfl, hN, fun j x hx => ?_⟩
 rw [Nat.zero_add, cell_of_row w b j _ ty (0, 0) h]
 have e : [Sc.mk k p s].flatMap A6 = [.int .i64 k, .int .i64 p, .string s] := by simp [A6]
 rw [e] at hx
 simpa using hx
theorem FP {o : Oper} {a : Act} {K : Act -> World -> Prop} {Q : Exit -> Act -> World -> Prop} (s x : Operand)
  (ho : o.op = .call { callee := .builtin .append, args := #[s, x], argTypes := #[22, 22] }) (B N : Nat) (v u : Value) (ts ys zs : List Sc) (k : Nat) (w : World)
  (hs : a.eval s = v) (hx : a.eval x = u) (hown : BU w B v ts) (hu : IR w N u ys) (hB : B <= w.heap.size) (hl : ts.length <= 10000) (hl2 : ys.length <= 10000) (hz : ts ++ ys = zs) (hk : zs.length = k)
  (h : ∀ v' w', BU w' B v' zs -> Below B w w' -> VZ v' k -> K (a.put o.dst v') w') : o.wp Tryz.prog a w K Q := by
 obtain ⟨i0, hi, hz1, hz2, hz3⟩ := info_parts Lc
 have hut : Tryz.prog.underlying 22 = some (.slice 40) := by kernel_rfl
 have hown0 : w.ownsRow B 40 3 v ts.length (ts.flatMap A6) := hown
 subst hz
 rcases hu with ⟨hu0, hn0⟩ | ⟨b, of, c, hv, hN, hc⟩
 ·subst hn0
  have hrun := run_append_owned_none (P := Tryz.prog) (w := w) B 22 o.type 40 i0 3 hut hi v ts.length _ hown0
  unfold Oper.wp
  simp only [execOp, ho, resolve, invoke, builtin, Sem.run_bind, Sem.run_pure, Result.andThen_ok, List.map_toArray, List.map_cons, List.map_nil, hs, hx, hu0, hrun]
  exact h v w (by rw [List.append_nil]; exact hown) (Bq _ _) (by rw [List.append_nil] at hk; exact hown.rm hk)
 ·refine wp_append_own w s x 22 ho B 40 i0 (.agg #[.int .i64 0, .int .i64 0, .string ⟨#[]⟩]) 3 32 hut hi hz1 hz2 hz3 rfl (by decide) v ts.length _ hs hown0 ⟨b, of, none⟩ ys.length c (ys.flatMap A6) (hx.trans hv) (Hk ys)
   (fun j uu hj => by
    have hadd : (⟨b, of, none⟩ : Addr).add j = ⟨b, of + j, none⟩ := by unfold Addr.add; split <;> simp_all
    rw [hadd]; exact hc j uu hj) (by
    intro uu hu
    obtain ⟨y, _, hy⟩ := List.mem_flatMap.1 hu
    simp [A6] at hy; rcases hy with rfl | rfl | rfl <;> rfl) (by unfold maxLen; omega) (by omega) hB ?_
  intro v' w' h1 h2 h3
  have hown' : BU w' B v' (ts ++ ys) := by
   unfold BU
   rw [List.length_append, List.flatMap_append]
   exact h1
  exact h v' w' hown' ((Bq B w).grown h2 hB (fun j hj => (World.ownsRow.lt hown0 j hj).1)) (hown'.rm hk)
theorem OY {ops : Array Oper} {rest : List Oper} {o : Oper} {a : Act} {Q : Exit -> Act -> World -> Prop} (hgd : o.guard = none) (s x : Operand)
  (ho : o.op = .call { callee := .builtin .append, args := #[s, x], argTypes := #[22, 22] }) (B N : Nat) (v u : Value) (ts ys zs : List Sc) (k : Nat) (w : World)
  (hs : a.eval s = v) (hx : a.eval x = u) (hown : BU w B v ts) (hu : IR w N u ys) (hB : B <= w.heap.size) (hl : ts.length <= 10000) (hl2 : ys.length <= 10000) (hz : ts ++ ys = zs) (hk : zs.length = k)
  (h : ∀ v' w', BU w' B v' zs -> Below B w w' -> VZ v' k -> wpList Tryz.prog ops Q rest (a.put o.dst v') w') :
  wpList Tryz.prog ops Q (o :: rest) a w :=
 wpList_plain hgd fun _ hK => FP s x ho B N v u ts ys zs k w hs hx hown hu hB hl hl2 hz hk fun v' w' h1 h2 h3 => hK _ _ (h v' w' h1 h2 h3)
end
section
set_option maxRecDepth 100000
set_option maxHeartbeats 8000000
def Lb (W : World) : Nat -> List Obj -> Prop
 | _, [] => True
 | m, o :: r => W.heap[m]? = some o /\ Lb W (m + 1) r
def Lt (w : World) : List Obj -> World
 | [] => w
 | o :: r => Lt (w.alloc o) r
theorem Lb.below {W W' : World} (hb : Below W.heap.size W W') : ∀ {l : List Obj} {m : Nat}, Lb W m l -> Lb W' m l
 | [], _, _ => trivial
 | _ :: _, _, h => ⟨Aa h.1 hb, Lb.below hb h.2⟩
theorem Ey : ∀ (l : List Obj) (w : World), Below w.heap.size w (Lt w l)
 | [], w => Bq _ _
 | o :: r, w => ((Bq w.heap.size w).alloc Nr o).trans ((Ey r (w.alloc o)).mono (by simp))
theorem Lb.new : ∀ (l : List Obj) (w : World), Lb (Lt w l) w.heap.size l
 | [], w => trivial
 | o :: r, w => by
  refine ⟨Aa (Wn w o) (Ey r (w.alloc o)), ?_⟩
  have := Lb.new r (w.alloc o)
  rwa [World.size_alloc] at this
def IL (F : Nat) (l : List Hi) : Bool := match C7 l with
 | .ok es => decide (4 * Dw es + 2 <= F)
 | _ => true
theorem GZ {F : Nat} {l : List Hi} (h : IL F l = true) : ∀ es, C7 l = .ok es -> 4 * Dw es + 2 <= F := fun es he => by
 unfold IL at h
 rw [he] at h
 simpa using h
theorem Lv {xs : List Sc} (h : (xs.all fun x => decide (x.str.size <= 100000)) = true) : ∀ x ∈ xs, x.str.size <= 100000 := fun x hx => of_decide_eq_true (List.all_eq_true.1 h x hx)
def GW : Tr := .mk 1 ⟨#[]⟩ CF [] [.mk 2 ⟨#[]⟩ CF [⟨3, 0, ⟨#[97]⟩⟩, ⟨3, 0, ⟨#[98]⟩⟩] [.mk 0 ⟨#[]⟩ ⟨2, 1, ⟨#[]⟩⟩ [] [], .mk 0 ⟨#[]⟩ CF [] []], .mk 1 ⟨#[120]⟩ CF [] [.mk 3 ⟨#[120]⟩ CF [] []]]
theorem Wi : Sm 1000000 GW := by
 unfold GW
 simp [Sm, Sm.SmTs]
def Vw : List Sc := [⟨1, 0, ⟨#[45, 32, 97, 58, 32, 49]⟩⟩, ⟨2, 2, ⟨#[98, 58]⟩⟩, ⟨3, 0, ⟨#[45, 32, 38, 120]⟩⟩, ⟨4, 2, ⟨#[45, 32, 42, 120]⟩⟩]
theorem W7 : EY [45, 32, 97, 58, 32, 49, 10, 32, 32, 98, 58, 10, 45, 32, 38, 120, 10, 32, 32, 45, 32, 42, 120, 10] = (Vw, 0, 0) := by kernel_rfl
theorem Wu : AL 100 (Vw.map B7) = (GW, 0, 0) := by kernel_rfl
theorem Ww : IL 100 (Vw.map B7) = true := by kernel_rfl
theorem Wz : (Vw.all fun x => decide (x.str.size <= 100000)) = true := by kernel_rfl
def Vt : List Sc := [⟨1, 0, ⟨#[97, 58, 32, 49]⟩⟩, ⟨2, 0, ⟨#[45, 32, 98]⟩⟩]
theorem Ws : EY [97, 58, 32, 49, 10, 45, 32, 98, 10] = (Vt, 0, 0) := by kernel_rfl
theorem W6 : AL 100 (Vt.map B7) = (CL, 2, 93) := by kernel_rfl
theorem Wx : IL 100 (Vt.map B7) = true := by kernel_rfl
theorem Wv : (Vt.all fun x => decide (x.str.size <= 100000)) = true := by kernel_rfl
def Vv : List Sc := [⟨1, 0, ⟨#[45, 32, 97]⟩⟩, ⟨2, 2, ⟨#[45, 32, 98]⟩⟩]
theorem Wt : EY [45, 32, 97, 10, 32, 32, 45, 32, 98, 10] = (Vv, 0, 0) := by kernel_rfl
theorem Wy : AL 100 (Vv.map B7) = (CL, 2, 92) := by kernel_rfl
theorem W5 : IL 100 (Vv.map B7) = true := by kernel_rfl
theorem W8 : (Vv.all fun x => decide (x.str.size <= 100000)) = true := by kernel_rfl
theorem Qm {W : World} {c1 c2 c3 c4 : Nat} (h1 : W.heap[c1]? = some (.cells #[.int .i64 3, .int .i64 0, .string ⟨#[97]⟩, .int .i64 3, .int .i64 0, .string ⟨#[98]⟩] 26)) (h2 : W.heap[c2]? = some (.cells #[.int .i64 0, .string ⟨#[]⟩, .int .i64 2, .int .i64 1, .string ⟨#[]⟩, .slice none 0 0, .slice none 0 0, .int .i64 0, .string ⟨#[]⟩, .int .i64 0, .int .i64 0, .string ⟨#[]⟩, .slice none 0 0, .slice none 0 0] 30)) (h3 : W.heap[c3]? = some (.cells #[.int .i64 3, .string ⟨#[120]⟩, .int .i64 0, .int .i64 0, .string ⟨#[]⟩, .slice none 0 0, .slice none 0 0] 30))
  (h4 : W.heap[c4]? = some (.cells #[.int .i64 2, .string ⟨#[]⟩, .int .i64 0, .int .i64 0, .string ⟨#[]⟩, .slice (some ⟨c1, 0, none⟩) 2 2, .slice (some ⟨c2, 0, none⟩) 2 2, .int .i64 1, .string ⟨#[120]⟩, .int .i64 0, .int .i64 0, .string ⟨#[]⟩, .slice none 0 0, .slice (some ⟨c3, 0, none⟩) 1 1] 30)) :
  Ao W (fun _ => True) GW (.agg #[.int .i64 1, .string ⟨#[]⟩, .int .i64 0, .int .i64 0, .string ⟨#[]⟩, .slice none 0 0, .slice (some ⟨c4, 0, none⟩) 2 2]) := by
 have l1 := (Gl h1)
 have l2 := (Gl h2)
 have l3 := (Gl h3)
 have l4 := (Gl h4)
 have one : ∀ x : Sc, Ao W (fun _ => True) (.mk 0 ⟨#[]⟩ x [] []) (.agg #[.int .i64 0, .string ⟨#[]⟩, .int .i64 x.kind, .int .i64 x.num, .string x.str, .slice none 0 0, .slice none 0 0]) := fun x => Ao.one W _ x
 have hx : Ao W (fun _ => True) (.mk 3 ⟨#[120]⟩ CF [] []) (.agg #[.int .i64 3, .string ⟨#[120]⟩, .int .i64 0, .int .i64 0, .string ⟨#[]⟩, .slice none 0 0, .slice none 0 0]) := Ao.ref W _ [120]
 have hseq : Ao W (fun _ => True) (.mk 1 ⟨#[120]⟩ CF [] [.mk 3 ⟨#[120]⟩ CF [] []]) (.agg #[.int .i64 1, .string ⟨#[120]⟩, .int .i64 0, .int .i64 0, .string ⟨#[]⟩, .slice none 0 0, .slice (some ⟨c3, 0, none⟩) 1 1]) := by
  rw [Ao]
  refine ⟨.slice none 0 0, some ⟨c3, 0, none⟩, 1, rfl, Cy.nil W, Gx.nil _, ?_⟩
  rw [Ao.TsIn, Ao.TsIn]
  refine ⟨⟨c3, 0, _, rfl, trivial, l3, ⟨3, ⟨#[120]⟩, CF, .slice none 0 0, .slice none 0 0, rfl, ?_, ?_, ?_, ?_, ?_, ?_, ?_⟩, hx⟩, trivial⟩ <;> simp [World.cell?, h3, CF]
 have hmap : Ao W (fun _ => True) (.mk 2 ⟨#[]⟩ CF [⟨3, 0, ⟨#[97]⟩⟩, ⟨3, 0, ⟨#[98]⟩⟩] [.mk 0 ⟨#[]⟩ ⟨2, 1, ⟨#[]⟩⟩ [] [], .mk 0 ⟨#[]⟩ CF [] []]) (.agg #[.int .i64 2, .string ⟨#[]⟩, .int .i64 0, .int .i64 0, .string ⟨#[]⟩, .slice (some ⟨c1, 0, none⟩) 2 2, .slice (some ⟨c2, 0, none⟩) 2 2]) := by
  rw [Ao]
  refine ⟨.slice (some ⟨c1, 0, none⟩) 2 2, some ⟨c2, 0, none⟩, 2, rfl, ⟨some ⟨c1, 0, none⟩, 2, rfl, fun j hj => ⟨c1, 0, rfl, l1, ?_⟩⟩, fun _ _ _ _ _ _ => trivial, ?_⟩
  ·match j, hj with
   | 0, _ => simp [World.cell?, h1]
   | 1, _ => simp [World.cell?, h1]
  ·rw [Ao.TsIn, Ao.TsIn, Ao.TsIn]
   refine ⟨⟨c2, 0, _, rfl, trivial, l2, ⟨0, ⟨#[]⟩, ⟨2, 1, ⟨#[]⟩⟩, .slice none 0 0, .slice none 0 0, rfl, ?_, ?_, ?_, ?_, ?_, ?_, ?_⟩, one _⟩, ⟨c2, 0, _, rfl, trivial, l2, ⟨0, ⟨#[]⟩, CF, .slice none 0 0, .slice none 0 0, rfl, ?_, ?_, ?_, ?_, ?_, ?_, ?_⟩, one _⟩, trivial⟩ <;> simp [World.cell?, h2, CF]
 unfold GW
 rw [Ao]
 refine ⟨.slice none 0 0, some ⟨c4, 0, none⟩, 2, rfl, Cy.nil W, Gx.nil _, ?_⟩
 rw [Ao.TsIn, Ao.TsIn, Ao.TsIn]
 refine ⟨⟨c4, 0, _, rfl, trivial, l4, ⟨2, ⟨#[]⟩, CF, .slice (some ⟨c1, 0, none⟩) 2 2, .slice (some ⟨c2, 0, none⟩) 2 2, rfl, ?_, ?_, ?_, ?_, ?_, ?_, ?_⟩, hmap⟩, ⟨c4, 0, _, rfl, trivial, l4, ⟨1, ⟨#[120]⟩, CF, .slice none 0 0, .slice (some ⟨c3, 0, none⟩) 1 1, rfl, ?_, ?_, ?_, ?_, ?_, ?_, ?_⟩, hseq⟩, trivial⟩ <;> simp [World.cell?, h4, CF]
theorem Uf (w : World) (hT : Bz w) (hE : Cb w) (hL : Ot w) :
  Calls Tryz.prog 10 #[] w fun e w' => e = .returned (.bool true) /\ Below w.heap.size w w' := by
 have hS := fun s wx (hb : Below w.heap.size w wx) => P7 s wx (hT.below hb) (hL.below hb)
 have hR := fun v xs wx (hb : Below w.heap.size w wx) hx hl hs hF => Qp 100 (by decide) v xs wx hx hl hs hF (hT.below hb) (hE.below hb)
 clear hT hE hL
 go_enter Tryz.func10, Tryz.ntmps10
 go_wp2_with fail
 refine (hS ⟨#[45, 32, 97, 58, 32, 49, 10, 32, 32, 98, 58, 10, 45, 32, 38, 120, 10, 32, 32, 45, 32, 42, 120, 10]⟩ _ (Bq _ _)).mono ?_
 rw [show EY (⟨#[45, 32, 97, 58, 32, 49, 10, 32, 32, 98, 58, 10, 45, 32, 38, 120, 10, 32, 32, 45, 32, 42, 120, 10]⟩ : ByteArray).data.toList = (Vw, 0, 0) from W7]
 rintro e w1 ⟨v1, rfl, hl1, hb1⟩
 go_wp2_with fail
 refine (hR v1 Vw w1 hb1 hl1 (by decide) (Lv Wz) (GZ Ww)).mono ?_
 rw [Wu]
 rintro e w2 ⟨tv, rfl, htv, hb2⟩
 replace hb2 := hb1.trans (hb2.mono hb1.size)
 obtain ⟨tk, tnm, xk, xn, xs, KA0, kl, kc, TA, tl, tc, rfl⟩ := htv.form
 clear hb1 hl1
 have h7 := Lb.new [.cells #[.int .i64 tk, .string tnm, .int .i64 xk, .int .i64 xn, .string xs, .slice KA0 kl kc, .slice TA tl tc] 30, .cells #[.int .i64 0, .string ⟨#[]⟩, .int .i64 2, .int .i64 1, .string ⟨#[]⟩, .slice none 0 0, .slice none 0 0] 30, .cells #[.int .i64 3, .int .i64 0, .string ⟨#[97]⟩, .int .i64 3, .int .i64 0, .string ⟨#[98]⟩] 26, .cells #[.int .i64 0, .string ⟨#[]⟩, .int .i64 2, .int .i64 1, .string ⟨#[]⟩, .slice none 0 0, .slice none 0 0, .int .i64 0, .string ⟨#[]⟩, .int .i64 0, .int .i64 0, .string ⟨#[]⟩, .slice none 0 0, .slice none 0 0] 30, .cells #[.int .i64 3, .string ⟨#[120]⟩, .int .i64 0, .int .i64 0, .string ⟨#[]⟩, .slice none 0 0, .slice none 0 0] 30, .cells #[.int .i64 2, .string ⟨#[]⟩, .int .i64 0, .int .i64 0, .string ⟨#[]⟩, .slice (some ⟨w2.heap.size + 1 + 1, 0, none⟩) 2 2, .slice (some ⟨w2.heap.size + 1 + 1 + 1, 0, none⟩) 2 2, .int .i64 1, .string ⟨#[120]⟩, .int .i64 0, .int .i64 0, .string ⟨#[]⟩, .slice none 0 0, .slice (some ⟨w2.heap.size + 1 + 1 + 1 + 1, 0, none⟩) 1 1] 30, .cells #[.int .i64 1, .string ⟨#[]⟩, .int .i64 0, .int .i64 0, .string ⟨#[]⟩, .slice none 0 0, .slice (some ⟨w2.heap.size + 1 + 1 + 1 + 1 + 1, 0, none⟩) 2 2] 30] w2
 have hbA := Ey [.cells #[.int .i64 tk, .string tnm, .int .i64 xk, .int .i64 xn, .string xs, .slice KA0 kl kc, .slice TA tl tc] 30, .cells #[.int .i64 0, .string ⟨#[]⟩, .int .i64 2, .int .i64 1, .string ⟨#[]⟩, .slice none 0 0, .slice none 0 0] 30, .cells #[.int .i64 3, .int .i64 0, .string ⟨#[97]⟩, .int .i64 3, .int .i64 0, .string ⟨#[98]⟩] 26, .cells #[.int .i64 0, .string ⟨#[]⟩, .int .i64 2, .int .i64 1, .string ⟨#[]⟩, .slice none 0 0, .slice none 0 0, .int .i64 0, .string ⟨#[]⟩, .int .i64 0, .int .i64 0, .string ⟨#[]⟩, .slice none 0 0, .slice none 0 0] 30, .cells #[.int .i64 3, .string ⟨#[120]⟩, .int .i64 0, .int .i64 0, .string ⟨#[]⟩, .slice none 0 0, .slice none 0 0] 30, .cells #[.int .i64 2, .string ⟨#[]⟩, .int .i64 0, .int .i64 0, .string ⟨#[]⟩, .slice (some ⟨w2.heap.size + 1 + 1, 0, none⟩) 2 2, .slice (some ⟨w2.heap.size + 1 + 1 + 1, 0, none⟩) 2 2, .int .i64 1, .string ⟨#[120]⟩, .int .i64 0, .int .i64 0, .string ⟨#[]⟩, .slice none 0 0, .slice (some ⟨w2.heap.size + 1 + 1 + 1 + 1, 0, none⟩) 1 1] 30, .cells #[.int .i64 1, .string ⟨#[]⟩, .int .i64 0, .int .i64 0, .string ⟨#[]⟩, .slice none 0 0, .slice (some ⟨w2.heap.size + 1 + 1 + 1 + 1 + 1, 0, none⟩) 2 2] 30] w2
 simp only [Lt] at h7 hbA
 have hb3 := hb2.trans (hbA.mono hb2.size)
 have htv3 := htv.below hbA
 go_wp2_with fail
 refine (hS ⟨#[97, 58, 32, 49, 10, 45, 32, 98, 10]⟩ _ hb3).mono ?_
 rw [show EY (⟨#[97, 58, 32, 49, 10, 45, 32, 98, 10]⟩ : ByteArray).data.toList = (Vt, 0, 0) from Ws]
 rintro e w4 ⟨v4, rfl, hl4, hq4⟩
 replace h7 := h7.below hq4
 replace htv3 := htv3.below hq4
 have hb4 := hb3.trans (hq4.mono hb3.size)
 clear hq4 hb3 hbA htv
 go_wp2_with fail
 refine (hR v4 Vt w4 hb4 hl4 (by decide) (Lv Wv) (GZ Wx)).mono ?_
 rw [W6]
 rintro e w5 ⟨tv2, rfl, htv2, hq5⟩
 obtain ⟨uk, unm, yk, yn, ys, KB0, ul, uc, UA, vl, vc, rfl⟩ := htv2.form
 replace h7 := h7.below hq5
 replace htv3 := htv3.below hq5
 have hb5 := hb4.trans (hq5.mono hb4.size)
 have hqA : Below w5.heap.size w5 (w5.alloc (.cells #[.int .i64 uk, .string unm, .int .i64 yk, .int .i64 yn, .string ys, .slice KB0 ul uc, .slice UA vl vc] 30)) := (Bq _ _).alloc Nr _
 replace h7 := h7.below hqA
 replace htv3 := htv3.below hqA
 have hb6 := hb5.trans (hqA.mono hb5.size)
 clear hq5 hb4 hqA htv2 hl4 hb5
 go_wp2_with fail
 refine (hS ⟨#[45, 32, 97, 10, 32, 32, 45, 32, 98, 10]⟩ _ hb6).mono ?_
 rw [show EY (⟨#[45, 32, 97, 10, 32, 32, 45, 32, 98, 10]⟩ : ByteArray).data.toList = (Vv, 0, 0) from Wt]
 rintro e w7 ⟨v7, rfl, hl7, hq7⟩
 replace h7 := h7.below hq7
 replace htv3 := htv3.below hq7
 have hb7 := hb6.trans (hq7.mono hb6.size)
 clear hq7 hb6
 go_wp2_with fail
 refine (hR v7 Vv w7 hb7 hl7 (by decide) (Lv W8) (GZ W5)).mono ?_
 rw [Wy]
 rintro e w8 ⟨tv3, rfl, htv4, hq8⟩
 obtain ⟨sk, snm, zk, zn, zs, KC0, sl, sc, SA, rl, rc, rfl⟩ := htv4.form
 replace h7 := h7.below hq8
 replace htv3 := htv3.below hq8
 have hb8 := hb7.trans (hq8.mono hb7.size)
 have hqB : Below w8.heap.size w8 (w8.alloc (.cells #[.int .i64 sk, .string snm, .int .i64 zk, .int .i64 zn, .string zs, .slice KC0 sl sc, .slice SA rl rc] 30)) := (Bq _ _).alloc Nr _
 replace h7 := h7.below hqB
 replace htv3 := htv3.below hqB
 have hb9 := hb8.trans (hqB.mono hb8.size)
 clear hq8 hb7 hqB htv4 hl7 hb8 hS hR
 obtain ⟨g0, g1, g2, g3, g4, g5, g6, _⟩ := h7
 have hS1 := OK GW _ _ _ _ _ htv3 (Qm g2 g3 g4 g5) Wi
 obtain ⟨x0, x1, x2, x3, x4, x5, x6, _, _, _, _, _, _, _⟩ := Ay g0
 obtain ⟨y0, y1, y2, y3, y4, y5, y6, _, _, _, _, _, _, _⟩ := Ay g6
 clear g0 g1 g2 g3 g4 g5 g6 htv3
 go_wp2_with fail
 refine hS1.mono ?_
 rintro e w11 ⟨rfl, hq11⟩
 have HB := hid (hb9.trans (hq11.mono hb9.size))
 clear hS1 hq11 hb9 x0 x1 x2 x3 x4 x5 x6 y0 y1 y2 y3 y4 y5 y6
 go_wp2
 go_ret
 exact ⟨rfl, HB.out⟩
end
section
theorem Vn {l m : List UInt8} {i : Nat} (h : i < l.length) (bs : List UInt8) : C3 (l ++ m) i bs = Bm bs (l.getD i 0) := by
 unfold C3
 rw [K6 _ _ _ h, List.length_append, decide_eq_true (by omega), Bool.true_and]
def D4 (n : Nat) : UInt8 := if n < 10 then UInt8.ofNat (48 + n) else UInt8.ofNat (87 + n)
def Cl (r : Nat) : List UInt8 :=
 if r = 10 then [92, 110] else if r = 9 then [92, 116] else if r = 13 then [92, 114]
 else if r = 34 \/ r = 92 then [92, UInt8.ofNat r]
 else if Aq r then encodeRune r else [92, 120, D4 (r / 16), D4 (r % 16)]
def Aw (l : List UInt8) : List UInt8 := 34 :: ((AH l).flatMap Cl ++ [34])
def FN (r : Nat) : Prop := M5 (r : Int) = true
theorem FY : ∀ (n : Nat) (l : List UInt8), l.length <= n -> validD l = true -> ∀ r ∈ AH l, FN r
 | n, [], _, _, r, h => by rw [P8] at h; simp at h
 | 0, c :: t, h, _, _, _ => by simp at h
 | n + 1, c :: t, h, hv, r, hr => by
  have hne : c :: t ≠ [] := by simp
  have hb : ¬ ((decodeL (c :: t)).1 = 65533 /\ (decodeL (c :: t)).2 = 1) := fun h => by rw [validD_step _ hne, if_pos h] at hv; cases hv
  have hw := decodeL_width (c :: t)
  rw [Cs _ hne] at hr
  rcases List.mem_cons.1 hr with rfl | hr
  ·have hvr := Ee _ hne hb
   unfold Lib.validRune at hvr
   rw [decide_eq_true_eq] at hvr
   unfold FN
   rw [GX]; omega
  ·exact FY n _ (by rw [List.length_drop]; simp at h |-; omega) (Gc _ hne hv) r hr
theorem KL : ∀ (n : Nat) (l : List UInt8), l.length <= n -> validD l = true -> (AH l).flatMap (fun r : Nat => encodeRune r) = l
 | n, [], _, _ => rfl
 | 0, c :: t, h, _ => by simp at h
 | n + 1, c :: t, h, hv => by
  have hne : c :: t ≠ [] := by simp
  have hb : ¬ ((decodeL (c :: t)).1 = 65533 /\ (decodeL (c :: t)).2 = 1) := fun h => by rw [validD_step _ hne, if_pos h] at hv; cases hv
  have hw := decodeL_width (c :: t)
  rw [Cs _ hne, List.flatMap_cons, KL n _ (by rw [List.length_drop]; simp at h |-; omega) (Gc _ hne hv), encode_decode _ hne hb, List.take_append_drop]
theorem Pq : ∀ q : Fin 16, JC (D4 q.val) = some q.val /\ (D4 q.val).toNat < 128 /\ 32 <= (D4 q.val).toNat /\ (D4 q.val).toNat ≠ 127 := by decide +kernel
theorem Nx (r : Nat) (h : r < 128) : C9 0 [D4 (r / 16), D4 (r % 16)] = some r /\ (D4 (r / 16)).toNat < 128 /\ (D4 (r % 16)).toNat < 128 ∧
  32 <= (D4 (r / 16)).toNat /\ 32 <= (D4 (r % 16)).toNat /\ (D4 (r / 16)).toNat ≠ 127 /\ (D4 (r % 16)).toNat ≠ 127 := by
 obtain ⟨a1, a2, a3, a4⟩ := Pq ⟨r / 16, by omega⟩
 obtain ⟨b1, b2, b3, b4⟩ := Pq ⟨r % 16, by omega⟩
 refine ⟨?_, a2, b2, a3, b3, a4, b4⟩
 unfold C9
 rw [a1]
 show C9 (0 * 16 + r / 16) [D4 (r % 16)] = some r
 unfold C9
 rw [b1]
 show some ((0 * 16 + r / 16) * 16 + r % 16) = some r
 congr 1; omega
theorem Ks {r : Nat} (h : Aq r = false) : r < 128 := by
 unfold Aq Ch at h
 simp at h
 omega
theorem OH (r : Nat) (h : FN r) : 0 < (encodeRune (r : Int)).length := by
 have h1 := Iu r h []
 have h2 := decodeL_width (encodeRune (r : Int) ++ [])
 rw [h1] at h2
 exact h2
theorem DA (c : UInt8) (t : List UInt8) (h : c.toNat < 128) : Lu (c :: t) = if BT [34, 92, 47] (c.toNat : Int) then .sign (c.toNat : Int) 1 else if (c.toNat : Int) = 48 then .sign 0 1
  else if (c.toNat : Int) = 120 then KW 1 (EQ t 2) else if (c.toNat : Int) = 117 then KW 1 (EQ t 4) else match Cn (c.toNat : Int) with | some y => .sign y 1 | none => .bad 41 := by
 unfold Lu
 rw [if_neg (by simp), EJ c t h, List.drop_one, List.tail_cons]
 rfl
theorem PA {a b : UInt8} {r : Nat} (h1 : C9 0 [a, b] = some r) (hr : r < 128) (m : List UInt8) : EQ (a :: b :: m) 2 = .sign r 2 := by
 have hvr : Lib.validRune (r : Int) = true := by unfold Lib.validRune; rw [decide_eq_true_eq]; omega
 have h2 : Hd (a :: b :: m) 2 = some r := by
  unfold Hd
  rw [if_neg (by simp), show (a :: b :: m).take 2 = [a, b] from rfl, h1]
  simp only [hvr, if_true]
 unfold EQ
 rw [h2]
theorem O4 {r : Nat} (h : FN r) (m : List UInt8) : ET 34 (Cl r ++ m) = .sign r (Cl r).length := by
 have e92 : ∀ t : List UInt8, ET 34 (92 :: t) = KW 1 (Lu t) := fun t => by
  unfold ET
  rw [if_neg (by simp), EJ _ _ (by decide), if_neg (by decide), if_pos ⟨rfl, rfl⟩]
  rfl
 unfold Cl
 split
 ·rename_i e; subst e
  rw [show [(92 : UInt8), 110] ++ m = 92 :: 110 :: m from rfl, e92, DA _ _ (by decide)]
  simp [BT, Cn, KW]
 ·split
  ·rename_i e; subst e
   rw [show [(92 : UInt8), 116] ++ m = 92 :: 116 :: m from rfl, e92, DA _ _ (by decide)]
   simp [BT, Cn, KW]
  ·split
   ·rename_i e; subst e
    rw [show [(92 : UInt8), 114] ++ m = 92 :: 114 :: m from rfl, e92, DA _ _ (by decide)]
    simp [BT, Cn, KW]
   ·split
    ·rename_i e
     rcases e with rfl | rfl
     ·rw [show [(92 : UInt8), UInt8.ofNat 34] ++ m = 92 :: 34 :: m from rfl, e92, DA _ _ (by decide)]
      simp [BT, Cn, KW]
     ·rw [show [(92 : UInt8), UInt8.ofNat 92] ++ m = 92 :: 92 :: m from rfl, e92, DA _ _ (by decide)]
      simp [BT, Cn, KW]
    ·rename_i hq
     split
     ·rename_i hp
      have h0 := OH r h
      have hd := Iu r h m
      have hne : encodeRune (r : Int) ++ m ≠ [] := by intro e; rw [List.append_eq_nil_iff] at e; rw [e.1] at h0; simp at h0
      have hr : B1 (encodeRune (r : Int) ++ m) = (r : Int) := by unfold B1; rw [if_neg hne, hd]; simp
      unfold ET
      rw [if_neg (fun e => hne (List.length_eq_zero_iff.1 e)), hr, if_neg (by omega), if_neg (by omega), hd]
      unfold Aq at hp
      rw [if_pos hp]
     ·rename_i hp
      have hlt := Ks (by simpa using hp)
      obtain ⟨h1, h2, h3, _⟩ := Nx r hlt
      rw [show [(92 : UInt8), 120, D4 (r / 16), D4 (r % 16)] ++ m = 92 :: 120 :: D4 (r / 16) :: D4 (r % 16) :: m from rfl, e92, DA _ _ (by decide), if_neg (by simp [BT]), if_neg (by simp), if_pos (by simp)]
      have hn : EQ (D4 (r / 16) :: D4 (r % 16) :: m) 2 = .sign r 2 := PA h1 (by omega) m
      rw [hn]
      simp [KW]
theorem P6 {r : Nat} (h : FN r) : 1 <= (Cl r).length := by
 unfold Cl
 repeat' split
 all_goals first | (have := OH r h; omega) | simp
theorem Hx (m : List UInt8) : ∀ (rs : List Nat) (f : Nat) (acc : List UInt8) (n : Nat), (∀ r ∈ rs, FN r) -> rs.length < f →
  BF 34 f (rs.flatMap Cl ++ 34 :: m) acc n = (acc ++ rs.flatMap (fun r : Nat => encodeRune r), n + (rs.flatMap Cl).length + 1, 0)
 | [], 0, _, _, _, h => by simp at h
 | [], f + 1, acc, n, _, _ => by
  unfold BF
  have : ET 34 ([].flatMap Cl ++ 34 :: m) = .fin 1 := by
   unfold ET
   rw [List.flatMap_nil, List.nil_append, if_neg (by simp), EJ _ _ (by decide)]
   simp
  rw [this]
  simp
 | r :: rs, 0, _, _, _, h => by simp at h
 | r :: rs, f + 1, acc, n, h, hf => by
  have hr := h r (List.mem_cons_self ..)
  have h1 := O4 hr (rs.flatMap Cl ++ 34 :: m)
  unfold BF
  rw [List.flatMap_cons, List.append_assoc, h1]
  show BF 34 f ((Cl r ++ (rs.flatMap Cl ++ 34 :: m)).drop (Cl r).length) (acc ++ encodeRune r) (n + (Cl r).length) = _
  rw [List.drop_left, Hx m rs f _ _ (fun x hx => h x (List.mem_cons_of_mem _ hx)) (by simp at hf; omega)]
  simp [Nat.add_assoc]
theorem OQ : ∀ rs : List Nat, (∀ r ∈ rs, FN r) -> rs.length <= (rs.flatMap Cl).length
 | [], _ => by simp
 | r :: rs, h => by
  have h1 := P6 (h r (List.mem_cons_self ..))
  have h2 := OQ rs (fun x hx => h x (List.mem_cons_of_mem _ hx))
  rw [List.flatMap_cons, List.length_append, List.length_cons]; omega
theorem Qs {r : Nat} (h : FN r) (m : List UInt8) : validD (encodeRune (r : Int) ++ m) = validD m /\ AH (encodeRune (r : Int) ++ m) = r :: AH m := by
 have h0 := OH r h
 have hd := Iu r h m
 have hne : encodeRune (r : Int) ++ m ≠ [] := by intro e; rw [List.append_eq_nil_iff] at e; rw [e.1] at h0; simp at h0
 constructor
 ·rw [validD_step _ hne, hd, if_neg, List.drop_left]
  rintro ⟨h1, h2⟩
  have := Np (r : Int) h1
  omega
 ·rw [Cs _ hne, hd, List.drop_left]; simp
theorem BX {c : UInt8} (hc : c.toNat < 128) (h1 : 32 <= c.toNat) (h2 : c.toNat ≠ 127) (m : List UInt8) : validD (c :: m) = validD m /\ (AH (c :: m)).all Aq = (AH m).all Aq := by
 refine ⟨validD_cons c m hc, ?_⟩
 rw [ML c m hc, List.all_cons]
 have : Aq c.toNat = true := by unfold Aq Ch; simp; omega
 rw [this, Bool.true_and]
theorem D9 (c : UInt8) (hc : c.toNat < 128) (h1 : 32 <= c.toNat) (h2 : c.toNat ≠ 127) (m : List UInt8) : validD (92 :: c :: m) = validD m /\ (AH (92 :: c :: m)).all Aq = (AH m).all Aq := by
 obtain ⟨a1, a2⟩ := BX (c := 92) (by decide) (by decide) (by decide) (c :: m)
 obtain ⟨b1, b2⟩ := BX hc h1 h2 m
 exact ⟨a1.trans b1, a2.trans b2⟩
theorem Mn {r : Nat} (h : FN r) (m : List UInt8) : validD (Cl r ++ m) = validD m /\ (AH (Cl r ++ m)).all Aq = (AH m).all Aq := by
 unfold Cl
 split
 ·exact D9 110 (by decide) (by decide) (by decide) m
 ·split
  ·exact D9 116 (by decide) (by decide) (by decide) m
  ·split
   ·exact D9 114 (by decide) (by decide) (by decide) m
   ·split
    ·rename_i e
     rcases e with rfl | rfl
     ·exact D9 34 (by decide) (by decide) (by decide) m
     ·exact D9 92 (by decide) (by decide) (by decide) m
    ·split
     ·rename_i hp
      obtain ⟨a, b⟩ := Qs h m
      exact ⟨a, by rw [b, List.all_cons, hp, Bool.true_and]⟩
     ·rename_i hp
      have hlt := Ks (by simpa using hp)
      obtain ⟨_, h2, h3, h4, h5, h6, h7⟩ := Nx r hlt
      obtain ⟨a1, a2⟩ := D9 120 (by decide) (by decide) (by decide) (D4 (r / 16) :: D4 (r % 16) :: m)
      obtain ⟨b1, b2⟩ := BX h2 h4 h6 (D4 (r % 16) :: m)
      obtain ⟨c1, c2⟩ := BX h3 h5 h7 m
      exact ⟨a1.trans (b1.trans c1), a2.trans (b2.trans c2)⟩
theorem J1 (m : List UInt8) : ∀ rs : List Nat, (∀ r ∈ rs, FN r) -> validD (rs.flatMap Cl ++ m) = validD m /\ (AH (rs.flatMap Cl ++ m)).all Aq = (AH m).all Aq
 | [], _ => ⟨rfl, rfl⟩
 | r :: rs, h => by
  obtain ⟨a, b⟩ := Mn (h r (List.mem_cons_self ..)) (rs.flatMap Cl ++ m)
  obtain ⟨c, d⟩ := J1 m rs (fun x hx => h x (List.mem_cons_of_mem _ hx))
  rw [List.flatMap_cons, List.append_assoc]
  exact ⟨a.trans c, b.trans d⟩
theorem Ns {l : List UInt8} (hv : validD l = true) (m : List UInt8) : validD (Aw l ++ m) = validD m /\ (AH (Aw l ++ m)).all Aq = (AH m).all Aq := by
 unfold Aw
 rw [List.cons_append, List.append_assoc]
 obtain ⟨a1, a2⟩ := BX (c := 34) (by decide) (by decide) (by decide) ((AH l).flatMap Cl ++ ([34] ++ m))
 obtain ⟨b1, b2⟩ := J1 ([34] ++ m) (AH l) (FY _ l Nr hv)
 obtain ⟨c1, c2⟩ := BX (c := 34) (by decide) (by decide) (by decide) m
 exact ⟨a1.trans (b1.trans c1), a2.trans (b2.trans c2)⟩
theorem N5 {l : List UInt8} (hv : validD l = true) (b m : List UInt8) (hbm : validD (b ++ (Aw l ++ m)) = true) :
  B6 ⟨(b ++ (Aw l ++ m)).toArray⟩ (b.length : Int) = (l, b.length + (Aw l).length, 0) := by
 have hs := FY _ l Nr hv
 have hq : EA (b ++ (Aw l ++ m)) b.length 34 := by
  refine ⟨by simp [Aw], .inl ⟨?_, rfl⟩⟩
  have := DM b (Aw l ++ m) 0
  rw [Nat.add_zero] at this
  rw [this]; rfl
 have hfl := OQ _ hs
 rw [Gz hq hbm, <- List.drop_drop, List.drop_left]
 have hd : (Aw l ++ m).drop 1 = (AH l).flatMap Cl ++ 34 :: m := by unfold Aw; simp
 have hfuel : (AH l).length < (b ++ (Aw l ++ m)).length + 1 - (b.length + 1) := by
  unfold Aw
  rw [List.length_append, List.length_append, List.length_cons, List.length_append]
  omega
 rw [hd, Hx m (AH l) _ _ _ hs hfuel, KL _ l Nr hv]
 unfold Aw
 simp; omega
end
section
def BB (b m : List UInt8) (d : Nat) : List TP := AK (b ++ m) b.length d
theorem V0 (b m : List UInt8) : (b ++ m).getD b.length 0 = m.getD 0 0 := by have := DM b m 0; rwa [Nat.add_zero] at this
theorem SM (b m : List UInt8) (bs : List UInt8) : C3 (b ++ m) b.length bs = C3 m 0 bs := by have := BS b m 0 bs; rwa [Nat.add_zero] at this
theorem Ew (c : UInt8) (m : List UInt8) (bs : List UInt8) : C3 (c :: m) 0 bs = Bm bs c := by
 unfold C3
 simp
theorem FH (b : List UInt8) (d : Nat) : BB b [] d = [] := KU d (by simp)
theorem CJ {b m : List UInt8} (hv : validD (b ++ 32 :: m) = true) (d : Nat) : BB b (32 :: m) d = BB (b ++ [32]) m d := by
 unfold BB
 rw [Hy hv (by simp) (by rw [SM, Ew]; rfl)]
 simp
theorem E9 {b m : List UInt8} {c : UInt8} {d k d' : Nat} (hv : validD (b ++ c :: m) = true) (h32 : Bm [32] c = false) (h35 : Bm [35] c = false) (ho : CU (b ++ c :: m) b.length d = .ok k [] (b.length + 1) d') : BB b (c :: m) d = .tok k [] b.length :: BB (b ++ [c]) m d' := by
 unfold BB
 rw [G3 hv (by simp) (by rw [SM, Ew]; exact h32) (by unfold BV; rw [SM, Ew, h35]; rfl) ho]
 simp
theorem Od {b m : List UInt8} (c : UInt8) (hc : c = 91 \/ c = 123) (hv : validD (b ++ c :: m) = true) (d : Nat) : BB b (c :: m) d = .tok (if c = 91 then 8 else 10) [] b.length :: BB (b ++ [c]) m (d + 1) := by
 refine E9 hv (by rcases hc with rfl | rfl <;> rfl) (by rcases hc with rfl | rfl <;> rfl) ?_
 unfold CU
 rw [V0]
 rcases hc with rfl | rfl <;> rfl
theorem GP {b m : List UInt8} (c : UInt8) (hc : c = 44 \/ c = 93 \/ c = 125) (hv : validD (b ++ c :: m) = true) : BB b (c :: m) 1 = .tok (if c = 44 then 7 else if c = 93 then 9 else 11) [] b.length :: BB (b ++ [c]) m (if c = 44 then 1 else 0) := by
 refine E9 hv (by rcases hc with rfl | rfl | rfl <;> rfl) (by rcases hc with rfl | rfl | rfl <;> rfl) ?_
 unfold CU
 rw [V0]
 rcases hc with rfl | rfl | rfl <;> rfl
theorem Hz {b m : List UInt8} (hv : validD (b ++ 58 :: 32 :: m) = true) (d : Nat) : BB b (58 :: 32 :: m) d = .tok 6 [] b.length :: BB (b ++ [58]) (32 :: m) d := by
 refine E9 hv rfl rfl ?_
 unfold CU
 rw [V0]
 show D0 (b ++ 58 :: 32 :: m) b.length d = _
 unfold D0
 rw [if_pos]
 rw [Cd b (58 :: 32 :: m) 1 d]
 unfold AF C2 C3
 simp [Bm]
theorem IOq {b m : List UInt8} (hv : validD (b ++ 45 :: 32 :: m) = true) : BB b (45 :: 32 :: m) 0 = .tok 5 [] b.length :: BB (b ++ [45]) (32 :: m) 0 := by
 refine E9 hv rfl rfl ?_
 unfold CU
 rw [V0]
 show DW (b ++ 45 :: 32 :: m) b.length 0 = _
 unfold DW
 rw [if_pos]
 ·rfl
 ·rw [EC b (45 :: 32 :: m) 1]
  unfold C2 C3
  simp [Bm]
theorem CH {l : List UInt8} (hv : validD l = true) (b m : List UInt8) (d : Nat) (hbm : validD (b ++ (Aw l ++ m)) = true) (hm : (AF m 0 d || C3 m 0 [58]) = true) :
  BB b (Aw l ++ m) d = .tok 2 l b.length :: BB (b ++ Aw l) m d := by
 have hr := N5 hv b m hbm
 have hc : (b ++ (Aw l ++ m)).getD b.length 0 = 34 := by rw [V0]; rfl
 have hi : ∀ bs, C3 (Aw l ++ m) 0 bs = Bm bs 34 := fun bs => by
  rw [Vn (by simp [Aw])]; rfl
 have ho : CU (b ++ (Aw l ++ m)) b.length d = .ok 2 l (b.length + (Aw l).length) d := by
  unfold CU NH
  rw [hc, if_pos (.inl rfl)]
  unfold DY
  rw [hr]
  have h1 := Cd (b ++ Aw l) m 0 d
  have h2 := BS (b ++ Aw l) m 0 [58]
  rw [List.append_assoc, Nat.add_zero, List.length_append] at h1 h2
  simp only [if_true]
  rw [h1, h2, hm]
  simp
 unfold BB
 rw [G3 hbm (by simp [Aw]) (by rw [SM, hi]; rfl) (by unfold BV; rw [SM, hi]; rfl) ho]
 simp
def kn : TP -> TP
 | .tok k t _ => .tok k t 0
 | .bad e _ => .bad e 0
def SO : List TP -> Bool
 | [] => true
 | .tok _ _ _ :: r => SO r
 | .bad _ _ :: _ => false
theorem Po : ∀ {ps : List TP}, SO ps = true -> BI ps = none
 | [], _ => rfl
 | .tok _ _ _ :: r, h => Po (ps := r) h
 | .bad _ _ :: _, h => by cases h
theorem Ry : ∀ ps : List TP, SO (ps.map kn) = SO ps
 | [] => rfl
 | .tok _ _ _ :: r => Ry r
 | .bad _ _ :: _ => rfl
def QD : TP -> Pc
 | .tok k t _ => ⟨k, t⟩
 | .bad _ _ => ⟨0, []⟩
theorem MP : ∀ ps : List TP, SO ps = true -> AP ((ps.map Hm).map Kq) = (ps.map kn).map QD
 | [], _ => rfl
 | .tok k t p :: r, h => by
  have := MP r h
  unfold AP at this |-
  simp only [List.map_cons]
  rw [this]; rfl
 | .bad _ _ :: _, h => by cases h
theorem IE {l : List UInt8} {ps : List TP} (hv : validD l = true) (hp : (AH l).all Aq = true) (ht : AK l 0 0 = ps) (hk : SO ps = true) (hne : ps ≠ []) : B9 l = ((ps.map Hm).map Kq, 0) := by
 unfold B9 C0
 rw [if_pos hv, if_pos hp, ht, DL, Po hk]
 simp [hne]
end
end Go.Proofs.YtaogfdffgdglkaaGreatDoor
