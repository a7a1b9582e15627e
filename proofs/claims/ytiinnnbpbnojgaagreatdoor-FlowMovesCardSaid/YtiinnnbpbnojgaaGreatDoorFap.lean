/- What is proved: a slice of pieces is laid behind a row of the call's own: what append then is; lists of pieces that are not too long; literal trees. -/
import Derived.Test.YtiinnnbpbnojgaaGreatDoorFti
import Derived.Laws.AppendOwnNone
namespace Go.Proofs.YtiinnnbpbnojgaaGreatDoor
open Go Go.RowKit Go.Lib
set_option linter.unusedSimpArgs false
set_option linter.unusedVariables false

def fewJ (xs : List TkI) : List TkI := (xs.take 60).map cutJ
theorem fewJ_len (xs : List TkI) : (fewJ xs).length ≤ 60 := by unfold fewJ; rw [List.length_map, List.length_take]; omega
/-- Pieces that are not too long, said of its members. -/
def Fm (n : Nat) (ts : List TkI) : Prop := ts.length ≤ n ∧ ∀ t ∈ ts, t.str.length ≤ 100
theorem Fm.fx {n : Nat} {ts : List TkI} (h : Fm n ts) (hn : n ≤ 1000000) : Fx ts := by
  refine ⟨by have := h.1; omega, fun q hq => ?_⟩
  have := h.2 _ (List.getElem_mem hq)
  rw [List.getD, List.getElem?_eq_getElem hq, Option.getD_some]
  omega
theorem Fm.app {n m : Nat} {ts us : List TkI} (h : Fm n ts) (h2 : Fm m us) : Fm (n + m) (ts ++ us) := by
  refine ⟨by rw [List.length_append]; have := h.1; have := h2.1; omega, fun t ht => ?_⟩
  rcases List.mem_append.1 ht with ht | ht
  · exact h.2 t ht
  · exact h2.2 t ht
theorem Fm.one (t : TkI) (h : t.str.length ≤ 100) : Fm 1 [t] := ⟨by simp, fun u hu => by rw [List.mem_singleton] at hu; rw [hu]; exact h⟩
theorem Fm.less {n m : Nat} {ts : List TkI} (h : Fm n ts) (hn : n ≤ m) : Fm m ts := ⟨Nat.le_trans h.1 hn, h.2⟩
theorem Fm.take {n : Nat} {ts : List TkI} (h : Fm n ts) (k : Nat) : Fm n (ts.take k) := ⟨by rw [List.length_take]; have := h.1; omega, fun t ht => h.2 t (List.mem_of_mem_take ht)⟩
theorem fewJ_fm (xs : List TkI) : Fm 60 (fewJ xs) := by
  refine ⟨fewJ_len xs, fun t ht => ?_⟩
  obtain ⟨t', _, e⟩ := List.mem_map.1 (show t ∈ (xs.take 60).map cutJ from ht)
  rw [← e]
  unfold cutJ
  rw [List.length_take]
  omega
theorem pcs_take (ts : List TkI) (k : Nat) : pcs (ts.take k) = (pcs ts).take k := by unfold pcs; rw [List.map_take]
theorem pcs_length (ts : List TkI) : (pcs ts).length = ts.length := by unfold pcs; simp
theorem pcs_app (ts us : List TkI) : pcs (ts ++ us) = pcs ts ++ pcs us := by unfold pcs; simp
theorem pcs_cons (t : TkI) (us : List TkI) : pcs (t :: us) = ⟨t.kind, t.str⟩ :: pcs us := by unfold pcs; simp

/-- A slice that has room for what it holds. -/
def RmI (v : Value) (n : Nat) : Prop := ∃ A c, v = .slice A n c ∧ n ≤ c
theorem OwnI.rm {w : World} {B n : Nat} {v : Value} {ts : List TkI} (h : OwnI w B v ts) (hn : ts.length = n) : RmI v n := by
  subst hn
  rcases h.2 with ⟨rfl, h0⟩ | ⟨g, cap, cur, rfl, _, _, hnc, _⟩
  · exact ⟨none, 0, by rw [h0], by omega⟩
  · exact ⟨_, cap, rfl, hnc⟩
/-- A slice of pieces, as a source: its block is below N. -/
def SrcI (w : World) (N : Nat) (u : Value) (ys : List TkI) : Prop :=
  (u = .slice none 0 0 ∧ ys = []) ∨ ∃ b o c, u = .slice (some ⟨b, o, none⟩) ys.length c ∧ b < N ∧ ∀ j x, (ys.flatMap tkCellsI)[j]? = some x → w.cell? ⟨b, o + j, none⟩ = some x
theorem SrcI.below {w w' : World} {N : Nat} {u : Value} {ys : List TkI} (h : SrcI w N u ys) (hb : Below N w w') : SrcI w' N u ys := by
  rcases h with h | ⟨b, o, c, hu, hN, hc⟩
  · exact .inl h
  · exact .inr ⟨b, o, c, hu, hN, fun j x hx => (hb.cell (p := ⟨b, o + j, none⟩) hN).trans (hc j x hx)⟩
theorem OwnI.src {w : World} {B N : Nat} {v : Value} {ts : List TkI} (h : OwnI w B v ts) (hN : w.heap.size ≤ N) : SrcI w N v ts := by
  rcases h.2 with ⟨hv, h0⟩ | ⟨g, cap, cur, hv, _, hg, hnc, hcm, hsz, htake⟩
  · exact .inl ⟨hv, List.eq_nil_of_length_eq_zero h0⟩
  · refine .inr ⟨g, 0, cap, hv, by have := (Array.getElem?_eq_some_iff.1 hg).1; omega, fun j u hu => ?_⟩
    rw [Nat.zero_add, cell_of_row w g j cur 39 (0, 0) hg]
    rw [← htake, List.getElem?_take] at hu
    split at hu
    · rw [Array.getElem?_toList] at hu; exact hu
    · cases hu
theorem SrcI.take {w : World} {N n : Nat} {A : Option Addr} {ca k : Nat} {ts : List TkI} (h : SrcI w N (.slice A n ca) ts) (hk : k ≤ ts.length) : SrcI w N (.slice A k ca) (ts.take k) := by
  rcases h with ⟨hv, h0⟩ | ⟨b, o, c, hu, hN, hc⟩
  · injection hv with e1 e2 e3
    subst e1 e2 e3 h0
    simp at hk
    subst hk
    exact .inl ⟨rfl, rfl⟩
  · injection hu with e1 e2 e3
    subst e1 e3
    refine .inr ⟨b, o, ca, by rw [List.length_take, Nat.min_eq_left hk], hN, fun j x hx => hc j x ?_⟩
    have e : ts.flatMap tkCellsI = (ts.take k).flatMap tkCellsI ++ (ts.drop k).flatMap tkCellsI := by
      rw [← List.flatMap_append, List.take_append_drop]
    rw [e, List.getElem?_append_left (List.getElem?_eq_some_iff.1 hx).1]
    exact hx
theorem SrcI.lit {w : World} {b N : Nat} {k p : Int} {s : ByteArray} {ty : TypeId} (h : w.heap[b]? = some (.cells #[.int .i64 k, .string s, .int .i64 p] ty)) (hN : b < N) : SrcI w N (.slice (some ⟨b, 0, none⟩) 1 1) [⟨k, s.data.toList, p⟩] := by
  refine .inr ⟨b, 0, 1, rfl, hN, fun j x hx => ?_⟩
  rw [Nat.zero_add, cell_of_row w b j _ ty (0, 0) h]
  have e : [TkI.mk k s.data.toList p].flatMap tkCellsI = [.int .i64 k, .string s, .int .i64 p] := by simp [tkCellsI]
  rw [e] at hx
  simpa using hx
theorem flat_lenI (ts : List TkI) : (ts.flatMap tkCellsI).length = ts.length * 3 := by
  induction ts with
  | nil => rfl
  | cons t r ih => rw [List.flatMap_cons, List.length_append, ih, List.length_cons]; simp [tkCellsI]; omega

/-- A slice of pieces is laid behind a row of the call's own. -/
theorem wp_append_tks {o : Oper} {a : Act} {K : Act → World → Prop} {Q : Exit → Act → World → Prop} (s x : Operand)
    (ho : o.op = .call { callee := .builtin .append, args := #[s, x], argTypes := #[22, 22] }) (B N : Nat) (v u : Value) (ts ys zs : List TkI) (k : Nat) (w : World)
    (hs : a.eval s = v) (hx : a.eval x = u) (hown : OwnI w B v ts) (hu : SrcI w N u ys) (hB : B ≤ w.heap.size) (hl : ts.length ≤ 10000) (hl2 : ys.length ≤ 10000) (hz : ts ++ ys = zs) (hk : zs.length = k)
    (h : ∀ v' w', OwnI w' B v' zs → Below B w w' → RmI v' k → K (a.put o.dst v') w') : o.wp Tryz.prog a w K Q := by
  obtain ⟨i0, hi, hz1, hz2, hz3⟩ := info_parts info_tok
  have hut : Tryz.prog.underlying 22 = some (.slice 39) := by kernel_rfl
  have hown0 : w.ownsRow B 39 3 v ts.length (ts.flatMap tkCellsI) := hown
  subst hz
  rcases hu with ⟨hu0, hn0⟩ | ⟨b, of, c, hv, hN, hc⟩
  · subst hn0
    have hrun := run_append_owned_none (P := Tryz.prog) (w := w) B 22 o.type 39 i0 3 hut hi v ts.length _ hown0
    unfold Oper.wp
    simp only [execOp, ho, resolve, invoke, builtin, Sem.run_bind, Sem.run_pure, Result.andThen_ok, List.map_toArray, List.map_cons, List.map_nil, hs, hx, hu0, hrun]
    exact h v w (by rw [List.append_nil]; exact hown) (Below.refl _ _) (by rw [List.append_nil] at hk; exact hown.rm hk)
  · refine wp_append_own w s x 22 ho B 39 i0 (.agg #[.int .i64 0, .string ⟨#[]⟩, .int .i64 0]) 3 32 hut hi hz1 hz2 hz3 rfl (by decide) v ts.length _ hs hown0 ⟨b, of, none⟩ ys.length c (ys.flatMap tkCellsI) (hx.trans hv) (flat_lenI ys)
      (fun j uu hj => by
        have hadd : (⟨b, of, none⟩ : Addr).add j = ⟨b, of + j, none⟩ := by unfold Addr.add; split <;> simp_all
        rw [hadd]; exact hc j uu hj) (by
        intro uu hu
        obtain ⟨y, _, hy⟩ := List.mem_flatMap.1 hu
        simp [tkCellsI] at hy; rcases hy with rfl | rfl | rfl <;> rfl) (by unfold maxLen; omega) (by omega) hB ?_
    intro v' w' h1 h2 h3
    have hown' : OwnI w' B v' (ts ++ ys) := by
      unfold OwnI
      rw [List.length_append, List.flatMap_append]
      exact h1
    exact h v' w' hown' ((Below.refl B w).grown h2 hB (fun j hj => (World.ownsRow.lt hown0 j hj).1)) (hown'.rm hk)
theorem wpList_append_tks {ops : Array Oper} {rest : List Oper} {o : Oper} {a : Act} {Q : Exit → Act → World → Prop} (hgd : o.guard = none) (s x : Operand)
    (ho : o.op = .call { callee := .builtin .append, args := #[s, x], argTypes := #[22, 22] }) (B N : Nat) (v u : Value) (ts ys zs : List TkI) (k : Nat) (w : World)
    (hs : a.eval s = v) (hx : a.eval x = u) (hown : OwnI w B v ts) (hu : SrcI w N u ys) (hB : B ≤ w.heap.size) (hl : ts.length ≤ 10000) (hl2 : ys.length ≤ 10000) (hz : ts ++ ys = zs) (hk : zs.length = k)
    (h : ∀ v' w', OwnI w' B v' zs → Below B w w' → RmI v' k → wpList Tryz.prog ops Q rest (a.put o.dst v') w') :
    wpList Tryz.prog ops Q (o :: rest) a w :=
  wpList_plain hgd fun _ hK => wp_append_tks s x ho B N v u ts ys zs k w hs hx hown hu hB hl hl2 hz hk fun v' w' h1 h2 h3 => hK _ _ (h v' w' h1 h2 h3)
theorem step_append_tks {ops : Array Oper} {o : Oper} {a : Act} {K : Act → World → Prop} {Q : Exit → Act → World → Prop} {E : Prop} (hgd : o.guard = none) (s x : Operand)
    (ho : o.op = .call { callee := .builtin .append, args := #[s, x], argTypes := #[22, 22] }) (B N : Nat) (v u : Value) (ts ys zs : List TkI) (k : Nat) (w : World)
    (hs : a.eval s = v) (hx : a.eval x = u) (hown : OwnI w B v ts) (hu : SrcI w N u ys) (hB : B ≤ w.heap.size) (hl : ts.length ≤ 10000) (hl2 : ys.length ≤ 10000) (hz : ts ++ ys = zs) (hk : zs.length = k)
    (h : ∀ v' w', OwnI w' B v' zs → Below B w w' → RmI v' k → K (a.put o.dst v') w') :
    if Region.wanted o (yielded ops a.tmps) = true then Oper.wp Tryz.prog o a w K Q else E := by
  have hw : Region.wanted o (yielded ops a.tmps) = true := by simp [Region.wanted, hgd]
  rw [if_pos hw]
  exact wp_append_tks s x ho B N v u ts ys zs k w hs hx hown hu hB hl hl2 hz hk h

def Tr.nm : Tr → ByteArray
  | .mk _ n _ _ _ => n
theorem TrIn.parts {w : World} {S : Nat → Prop} {t : Tr} {k xk xn : Int} {nm xs : ByteArray} {KA A : Option Addr} {kl kc l c : Nat} (h : TrIn w S t (.agg #[.int .i64 k, .string nm, .int .i64 xk, .int .i64 xn, .string xs, .slice KA kl kc, .slice A l c])) :
    k = t.kind ∧ l = t.kids.length ∧ nm = t.nm := by
  cases t with
  | mk k' nm' x ks ts =>
    rw [TrIn] at h
    obtain ⟨kv, A', cap, e, _⟩ := h
    simp at e
    exact ⟨e.1, e.2.2.2.2.2.2.2.1, e.2.1⟩
/-- A literal list of one tree, of two. -/
def treeCells (v : Value) : Array Value := match v with | .agg cs => cs | _ => #[]
theorem TrIn.any {w : World} {S : Nat → Prop} {t : Tr} {v : Value} (h : TrIn w S t v) : TrIn w (fun _ => True) t v := tr_less (fun _ _ _ => trivial) t v h
theorem seq_lit1 {w : World} {N c : Nat} {t : Tr} {S : Nat → Prop} {ty : TypeId} {v0 v1 v2 v3 v4 v5 v6 : Value} (hb : w.heap[N]? = some (.cells #[v0, v1, v2, v3, v4, v5, v6] ty)) (h : TrIn w S t (.agg #[v0, v1, v2, v3, v4, v5, v6])) :
    TrIn w (fun _ => True) (seqTr [t]) (.agg #[.int .i64 1, .string ⟨#[]⟩, .int .i64 0, .int .i64 0, .string ⟨#[]⟩, .slice none 0 0, .slice (some ⟨N, 0, none⟩) 1 c]) := by
  obtain ⟨x0, x1, x2, x3, x4, x5, x6, _, _, _, _, _, _, _⟩ := blk7 hb
  unfold seqTr
  rw [TrIn]
  refine ⟨.slice none 0 0, some ⟨N, 0, none⟩, c, rfl, ScIn.nil w, From.nil _, ?_⟩
  rw [TrIn.TsIn, TrIn.TsIn]
  refine ⟨⟨N, 0, .agg #[v0, v1, v2, v3, v4, v5, v6], rfl, trivial, (Array.getElem?_eq_some_iff.1 hb).1, ?_, h.any⟩, trivial⟩
  obtain ⟨k, nm, xk, xn, xs, KA, kl, kc, A, l, ca, e⟩ := h.form
  simp only [Value.agg.injEq, Array.mk.injEq, List.cons.injEq, and_true] at e
  obtain ⟨rfl, rfl, rfl, rfl, rfl, rfl, rfl⟩ := e
  exact ⟨k, nm, ⟨xk, xn, xs⟩, _, _, rfl, x0, x1, x2, x3, x4, x5, x6⟩
theorem seq_lit2 {w : World} {N c : Nat} {t t' : Tr} {S : Nat → Prop} {ty : TypeId} {v0 v1 v2 v3 v4 v5 v6 u0 u1 u2 u3 u4 u5 u6 : Value} (hb : w.heap[N]? = some (.cells #[v0, v1, v2, v3, v4, v5, v6, u0, u1, u2, u3, u4, u5, u6] ty))
    (h : TrIn w S t (.agg #[v0, v1, v2, v3, v4, v5, v6])) (h' : TrIn w S t' (.agg #[u0, u1, u2, u3, u4, u5, u6])) :
    TrIn w (fun _ => True) (seqTr [t, t']) (.agg #[.int .i64 1, .string ⟨#[]⟩, .int .i64 0, .int .i64 0, .string ⟨#[]⟩, .slice none 0 0, .slice (some ⟨N, 0, none⟩) 2 c]) := by
  have hc := fun j => cell_of_row w N j _ ty (0, 0) hb
  have hlt := (Array.getElem?_eq_some_iff.1 hb).1
  unfold seqTr
  rw [TrIn]
  refine ⟨.slice none 0 0, some ⟨N, 0, none⟩, c, rfl, ScIn.nil w, From.nil _, ?_⟩
  rw [TrIn.TsIn, TrIn.TsIn, TrIn.TsIn]
  refine ⟨⟨N, 0, .agg #[v0, v1, v2, v3, v4, v5, v6], rfl, trivial, hlt, ?_, h.any⟩, ⟨N, 0, .agg #[u0, u1, u2, u3, u4, u5, u6], rfl, trivial, hlt, ?_, h'.any⟩, trivial⟩
  · obtain ⟨k, nm, xk, xn, xs, KA, kl, kc, A, l, ca, e⟩ := h.form
    simp only [Value.agg.injEq, Array.mk.injEq, List.cons.injEq, and_true] at e
    obtain ⟨rfl, rfl, rfl, rfl, rfl, rfl, rfl⟩ := e
    exact ⟨k, nm, ⟨xk, xn, xs⟩, _, _, rfl, hc 0, hc 1, hc 2, hc 3, hc 4, hc 5, hc 6⟩
  · obtain ⟨k, nm, xk, xn, xs, KA, kl, kc, A, l, ca, e⟩ := h'.form
    simp only [Value.agg.injEq, Array.mk.injEq, List.cons.injEq, and_true] at e
    obtain ⟨rfl, rfl, rfl, rfl, rfl, rfl, rfl⟩ := e
    exact ⟨k, nm, ⟨xk, xn, xs⟩, _, _, rfl, hc 7, hc 8, hc 9, hc 10, hc 11, hc 12, hc 13⟩
end Go.Proofs.YtiinnnbpbnojgaaGreatDoor
