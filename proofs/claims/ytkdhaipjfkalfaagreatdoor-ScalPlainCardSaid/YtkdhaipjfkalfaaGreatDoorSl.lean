import Derived.Test.YtkdhaipjfkalfaaGreatDoorSk
import Derived.Test.YtkdhaipjfkalfaaGreatDoorQq
import Derived.Stop.RegionWithIn
/- What is proved: rows of scalars of a call's own; slices.Values and slices.AppendSeq at scalars: what the iterator gives is laid in a row of the call's own. -/
namespace Go.Proofs.YtkdhaipjfkalfaaGreatDoor
open Go Go.RowKit Go.Lib
set_option linter.unusedSimpArgs false
set_option linter.unusedVariables false
attribute [local go_sem] Oper.semAt_some

theorem info_sc : (Tryz.prog.info? 23).map (fun i => (i.zero, i.size, i.bytes)) = some (some (.agg #[.int .i64 0, .int .i64 0, .string ⟨#[]⟩]), 3, 32) := by kernel_rfl
/-- A row of pieces of the call's own. -/
def OwnS (w : World) (B : Nat) (v : Value) (ts : List Sc) : Prop := w.ownsRow B 23 3 v ts.length (ts.flatMap scCells)
theorem flat_lenS : ∀ ts : List Sc, (ts.flatMap scCells).length = ts.length * 3
  | [] => rfl
  | t :: r => by rw [List.flatMap_cons, List.length_append, flat_lenS r]; simp [scCells]; omega
theorem flat_atS : ∀ (ts : List Sc) (k : Nat), k < ts.length → (ts.flatMap scCells)[k * 3]? = some (.int .i64 (ts.getD k sc0).kind) ∧ (ts.flatMap scCells)[k * 3 + 1]? = some (.int .i64 (ts.getD k sc0).num) ∧ (ts.flatMap scCells)[k * 3 + 2]? = some (.string (ts.getD k sc0).str)
  | [], k, h => by simp at h
  | t :: r, 0, h => ⟨rfl, rfl, rfl⟩
  | t :: r, k + 1, h => by
    have := flat_atS r k (by simpa using h)
    rw [List.flatMap_cons, show (k + 1) * 3 = 3 + k * 3 by omega]
    have e : ∀ j, (scCells t ++ r.flatMap scCells)[3 + j]? = (r.flatMap scCells)[j]? := fun j => by
      rw [List.getElem?_append_right (by simp [scCells])]; simp [scCells]
    rw [show 3 + k * 3 + 1 = 3 + (k * 3 + 1) by omega, show 3 + k * 3 + 2 = 3 + (k * 3 + 2) by omega, e, e, e]
    exact this
theorem OwnS.sl {w : World} {B : Nat} {v : Value} {ts : List Sc} (h : OwnS w B v ts) : ScIn w v ts := by
  rcases h.2 with ⟨hv, h0⟩ | ⟨g, cap, cur, hv, _, hg, hnc, hcm, hsz, htake⟩
  · rw [hv]
    have : ts = [] := List.eq_nil_of_length_eq_zero h0
    subst this
    exact ScIn.nil w
  · refine ⟨some ⟨g, 0, none⟩, cap, hv, fun k hk => ⟨g, 0, rfl, (Array.getElem?_eq_some_iff.1 hg).1, ?_⟩⟩
    obtain ⟨f0, f1, f2⟩ := flat_atS ts k hk
    have hc : ∀ j u, (ts.flatMap scCells)[j]? = some u → w.cell? ⟨g, 0 + j, none⟩ = some u := fun j u hu => by
      rw [Nat.zero_add, cell_of_row w g j cur 23 (0, 0) hg]
      rw [← htake, List.getElem?_take] at hu
      split at hu
      · rw [Array.getElem?_toList] at hu; exact hu
      · cases hu
    exact ⟨hc _ _ f0, hc _ _ f1, hc _ _ f2⟩
theorem OwnS.turn {C : Nat → Prop} {n B : Nat} {v : Value} {ts : List Sc} {X Y : World} (h : OwnS X B v ts) (ht : Turn C n X Y) (hC : ∀ k, C k → ∃ T, T ≠ 23 ∧ KindAt X k T) : OwnS Y B v ts := by
  refine ⟨h.1, ?_⟩
  rcases h.2 with h0 | ⟨g, cap, cur, hv, hb, hg, hr⟩
  · exact .inl h0
  · have hng : ¬ C g := fun hc => by obtain ⟨T, h1, h2⟩ := hC g hc; exact h2.ne hg h1 rfl
    exact .inr ⟨g, cap, cur, hv, hb, ht.heap hg hng rfl, hr⟩

theorem OwnS.keep {X Y : World} {B : Nat} {v : Value} {ts : List Sc} (h : OwnS X B v ts) (hk : ∀ (j : Nat) (c : Array Value), X.heap[j]? = some (Obj.cells c 23 (0, 0)) → Y.heap[j]? = some (Obj.cells c 23 (0, 0))) : OwnS Y B v ts := by
  refine ⟨h.1, ?_⟩
  rcases h.2 with h0 | ⟨g, cap, cur, hv, hb, hg, hr⟩
  · exact .inl h0
  · exact .inr ⟨g, cap, cur, hv, hb, hk g cur hg, hr⟩
theorem sc_ne {X : World} {j k : Nat} {c : Array Value} {T : TypeId} {u : Value} (hj : X.heap[j]? = some (Obj.cells c 23 (0, 0))) (hk : Boxed X k T u) (hT : T ≠ 23) : j ≠ k := by
  rintro rfl
  rw [show X.heap[j]? = _ from hk] at hj
  injection hj with hj; injection hj with _ hj
  exact hT hj
theorem own_rowS {w : World} {B : Nat} {v : Value} {ts : List Sc} (h : OwnS w B v ts) {k : Nat} (hk : v.ownBlock = some k) : B ≤ k ∧ ∃ cur, w.heap[k]? = some (.cells cur 23 (0, 0)) := by
  rcases h.2 with ⟨rfl, _⟩ | ⟨g, cap, cur, rfl, hb, hg, _⟩
  · simp [Value.ownBlock] at hk
  · simp [Value.ownBlock] at hk
    subst hk
    exact ⟨hb, cur, hg⟩
/-- A piece is laid behind the others. -/
theorem put_sc {C : Nat → Prop} {N M B : Nat} {Wb w5 : World} {v v' : Value} {ts : List Sc} {x : Sc} {o : Obj} (hN : N ≤ M) (hB : N ≤ B) (hBz : B ≤ Wb.heap.size) (hMC : ¬ C M) (h2 : Boxed Wb M 34 v) (h3 : OwnS Wb B v ts) (hC : ∀ j, C j → ∃ T, T ≠ 23 ∧ KindAt Wb j T)
    (hown : w5.ownsRow B 23 3 v' (ts.length + 1) (ts.flatMap scCells ++ scCells x)) (hg : (Wb.alloc o).grownBy w5 v.ownBlock) :
    Keeps noCells C N Wb (w5.setCell ⟨M, 0, none⟩ v') ∧ Boxed (w5.setCell ⟨M, 0, none⟩ v') M 34 v' ∧ OwnS (w5.setCell ⟨M, 0, none⟩ v') B v' (ts ++ [x]) ∧ w5.cell? ⟨M, 0, none⟩ = some v ∧ w5.frozen? ⟨M, 0, none⟩ = false ∧
    (∀ (j : Nat) (T : TypeId) (c : Array Value), T ≠ 23 → j ≠ M → Wb.heap[j]? = some (Obj.cells c T (0, 0)) → (w5.setCell ⟨M, 0, none⟩ v').heap[j]? = some (Obj.cells c T (0, 0))) ∧ (∀ (j : Nat) (T : TypeId), T ≠ 23 → j ≠ M → KindAt Wb j T → KindAt (w5.setCell ⟨M, 0, none⟩ v') j T) := by
  have hrow : ∀ j (c : Array Value) (T : TypeId) (fz : Nat × Nat), T ≠ 23 → Wb.heap[j]? = some (Obj.cells c T fz) → w5.heap[j]? = some (Obj.cells c T fz) := fun j c T fz hT hj => by
    have hjl : j < Wb.heap.size := (Array.getElem?_eq_some_iff.1 hj).1
    refine (hg.block j (by simp; omega) (fun e => ?_)).trans ((Below.heap_alloc Wb o j hjl).trans hj)
    obtain ⟨_, cur, hc⟩ := own_rowS h3 e.symm
    rw [hj] at hc
    injection hc with hc; injection hc with _ hc
    exact hT hc
  have hM5 : Boxed w5 M 34 v := hrow M _ 34 _ (by decide) h2
  refine ⟨?_, hM5.set v', ?_, hM5.cell, hM5.frozen, fun j T c hT hj hh => (Below.heap_setCell w5 ⟨M, 0, none⟩ v' j hj).trans (hrow j c T _ hT hh), fun j T hT hj ⟨c, fz, hh⟩ => ⟨c, fz, (Below.heap_setCell w5 ⟨M, 0, none⟩ v' j hj).trans (hrow j c T fz hT hh)⟩⟩
  · refine ((Keeps.alloc Wb o).trans (Keeps.grown hg (fun k hk => ?_))).trans (Keeps.setCell w5 ⟨M, 0, none⟩ v' hN hMC)
    obtain ⟨hb, cur, hc⟩ := own_rowS h3 hk
    have hkl : k < Wb.heap.size := (Array.getElem?_eq_some_iff.1 hc).1
    refine ⟨by omega, fun hck => ?_, fun o' ho' => ?_⟩
    · obtain ⟨T, hT, c, fz, hh⟩ := hC k hck
      rw [hc] at hh
      injection hh with hh; injection hh with _ hh
      exact hT hh.symm
    · rw [Below.heap_alloc Wb o k hkl, hc] at ho'
      injection ho' with ho'
      rw [← ho']; rfl
  · refine ⟨by rw [flat_lenS], ?_⟩
    rcases hown.2 with ⟨_, h0⟩ | ⟨g, cap, cur, hv, hb, hgc, h4, h5, h6, h7⟩
    · omega
    · refine .inr ⟨g, cap, cur, by rw [hv]; simp, hb, (Below.heap_setCell w5 ⟨M, 0, none⟩ v' g (fun e => ?_)).trans hgc, by simpa using h4, h5, h6, by rw [List.flatMap_append, List.length_append]; simpa using h7⟩
      have e' : g = M := e
      subst e'
      rw [show w5.heap[g]? = _ from hM5] at hgc
      injection hgc with hgc; injection hgc with _ hgc
      exact absurd hgc (by decide)


/-- A row of scalars that lies below a block. -/
def RowN (W : World) (A : Option Addr) (ts : List Sc) (n₀ : Nat) : Prop := ∀ k, k < ts.length → ∃ b o : Nat, A = some ⟨b, o, none⟩ ∧ b < n₀ ∧ W.cell? ⟨b, o + k * 3, none⟩ = some (.int .i64 (ts.getD k sc0).kind) ∧ W.cell? ⟨b, o + k * 3 + 1, none⟩ = some (.int .i64 (ts.getD k sc0).num) ∧ W.cell? ⟨b, o + k * 3 + 2, none⟩ = some (.string (ts.getD k sc0).str)
theorem RowN.keeps {p : Obj → Bool} {C : Nat → Prop} {n₀ : Nat} {X Y : World} {A : Option Addr} {ts : List Sc} (h : RowN X A ts n₀) (hk : Keeps p C n₀ X Y) : RowN Y A ts n₀ := fun k hlt => by
  obtain ⟨b, o, ha, hb, h0, h1, h2⟩ := h k hlt
  exact ⟨b, o, ha, hb, hk.cell h0 (.inl hb), hk.cell h1 (.inl hb), hk.cell h2 (.inl hb)⟩
theorem RowN.below {n₀ : Nat} {X Y : World} {A : Option Addr} {ts : List Sc} (h : RowN X A ts n₀) (hk : Below X.heap.size X Y) : RowN Y A ts n₀ := fun k hlt => by
  obtain ⟨b, o, ha, hb, h0, h1, h2⟩ := h k hlt
  exact ⟨b, o, ha, hb, cell_below h0 hk, cell_below h1 hk, cell_below h2 hk⟩
theorem RowN.turn {n₀ n : Nat} {X Y : World} {A : Option Addr} {ts : List Sc} (h : RowN X A ts n₀) (hk : Turn (fun _ => False) n X Y) : RowN Y A ts n₀ := fun k hlt => by
  obtain ⟨b, o, ha, hb, h0, h1, h2⟩ := h k hlt
  exact ⟨b, o, ha, hb, hk.cell h0 (fun f => f), hk.cell h1 (fun f => f), hk.cell h2 (fun f => f)⟩
theorem RowN.of {W : World} {v : Value} {ts : List Sc} (h : ScIn W v ts) : ∃ A cap, v = .slice A ts.length cap ∧ RowN W A ts W.heap.size := by
  obtain ⟨A, cap, hv, hc⟩ := h
  exact ⟨A, cap, hv, hc⟩
def encS (x : Sc) : Array Value := #[scV x]

theorem values_any (A : Option Addr) (n c : Nat) (w : World) :
    Calls Tryz.prog 42 #[.slice A n c] w fun e w' => e = .returned (.func (.func 64) #[] #[.pointer (some ⟨w.heap.size, 0, none⟩)]) ∧ w' = w.alloc (.cells #[.slice A n c] 34) := by
  go_enter Tryz.func42, Tryz.ntmps42
  go_wp2
  go_ret
  exact ⟨by simp, rfl⟩

set_option maxRecDepth 100000 in
set_option maxHeartbeats 2000000 in
theorem values_iter (ts : List Sc) (A : Option Addr) (cap Bs n₀ : Nat) (hn : ts.length ≤ 1000000) :
    Iter Tryz.prog 64 #[.pointer (some ⟨Bs, 0, none⟩)] encS (fun _ => False) n₀ ts (fun W => Boxed W Bs 34 (.slice A ts.length cap) ∧ RowN W A ts n₀) := by
  intro l J Jx W ⟨hB, hR⟩ hJ hJx hY h0
  obtain ⟨n, hnn⟩ : ∃ n, ts.length = n := ⟨_, rfl⟩
  have HN := hid hnn
  rw [hnn] at hB hn
  clear hnn
  refine callsIn_of_wp Tryz.func64 rfl trivial ?_ rfl
  simp only [Tryz.ntmps64, List.size_toArray, List.length_cons, List.length_nil, Nat.reduceAdd, Nat.reduceSub, Array.replicate_succ, Array.replicate_zero, List.push_toArray, List.append_toArray, List.nil_append, List.cons_append]
  have c0 := hB.cell
  gi_wp2
  gi_loopw [7] (fun i wr => ∃ k : Nat, k ≤ n ∧ i = .int .i64 k ∧ J (ts.take k) wr ∧ RowN wr A ts n₀) (fun i _ => n - (intOf i).toNat)
  case atStart => exact ⟨0, by omega, rfl, by simpa using h0, hR⟩
  case round =>
    obtain ⟨k, hk, rfl, hJs, hRw⟩ := hrel
    clear hB hR h0 c0
    by_cases hlt : k < n
    · obtain ⟨b, o, rfl, hb, a0, a1, a2⟩ := hRw k (by rw [HN.out]; exact hlt)
      have hki : (k : Int) < (n : Int) := by omega
      obtain ⟨⟨k1, n1, s1⟩, hx⟩ : ∃ x, ts.getD k sc0 = x := ⟨_, rfl⟩
      rw [hx] at a0 a1 a2
      have hpre : ts.take k ++ [(⟨k1, n1, s1⟩ : Sc)] = ts.take (k + 1) := by
        rw [List.take_succ_eq_append_getElem (by rw [HN.out]; exact hlt)]
        simp only [List.getD, List.getElem?_eq_getElem (show k < ts.length by rw [HN.out]; exact hlt), Option.getD_some] at hx
        rw [hx]
      have HP := hid hpre
      clear hx hpre
      have hJ1 := hJ _ _ _ hJs (Turn.alloc wr (.cells #[.int .i64 k1, .int .i64 n1, .string s1] 23))
      have hR1 := hRw.below ((Below.refl _ wr).alloc (Nat.le_refl _) (.cells #[.int .i64 k1, .int .i64 n1, .string s1] 23))
      have hpr : ts.take k ++ [(⟨k1, n1, s1⟩ : Sc)] <+: ts := by rw [HP.out]; exact List.take_prefix _ _
      obtain ⟨fn, tmps, assign, body, hy, hR⟩ := hY _ _ _ hJ1 hpr
      unfold encS scV at hy
      have HPR := hid hpr
      clear hpr
      gi_wp2
      refine ⟨rfl, hR.mono ?_⟩
      rintro e W3 (⟨rfl, hJ3, hk3⟩ | ⟨rfl, hJ3, hk3⟩)
      · have hR3 := hR1.keeps hk3
        clear hy a0 a1 a2 hRw hR1
        gi_wp2
        go_roundw
        case rel => exact ⟨k + 1, by omega, by go_num, by rw [← HP.out]; exact hJ3, hR3⟩
        case measure => simp [intOf]; omega
      · clear hy a0 a1 a2 hRw hR1
        gi_wp2
        (try simp only [Exit.inBlock, Exit.then])
        refine bodyPost_ret (results_none rfl _ _ _) rfl ?_
        exact ⟨⟨_, rfl⟩, .inr ⟨_, HPR.out, hJ3⟩⟩
    · have hki : ¬ (k : Int) < (n : Int) := by omega
      have HE := hid (show ts.take k = ts from List.take_of_length_le (by rw [HN.out]; omega))
      gi_wp2
      try simp only [Exit.noGoto_normal]
      go_end0
      exact ⟨⟨_, rfl⟩, .inl (by rw [← HE.out]; exact hJs)⟩
end Go.Proofs.YtkdhaipjfkalfaaGreatDoor
