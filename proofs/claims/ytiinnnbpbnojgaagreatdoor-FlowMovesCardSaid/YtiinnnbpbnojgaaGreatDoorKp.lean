import Derived.Test.YtiinnnbpbnojgaaGreatDoorKn
import Derived.Stop.RegionWithIn
/- What is proved: package tok's Read, where the text is not right, or has a sign that is not plain. -/
namespace Go.Proofs.YtiinnnbpbnojgaaGreatDoor
open Go Go.RowKit Go.Lib
set_option linter.unusedSimpArgs false
set_option linter.unusedVariables false
attribute [local go_sem] Oper.semAt_some wide_fn wide_depth

/-- Is a rune none that a line may have? -/
def otherT (r : Nat) : Bool := decide ((r : Int) < 32) || ((r : Int) == 127)
theorem otherT_plain (r : Nat) : otherT r = !plainRune r := by
  unfold otherT plainRune plainN
  rw [Bool.eq_iff_iff]; simp <;> omega
theorem otherT_any (r : Nat) (w : World) :
    Calls Tryz.prog 54 #[.int .i32 (r : Int)] w fun e w' => e = .returned (.bool (otherT r)) ∧ w' = w := by
  go_enter Tryz.func54, Tryz.ntmps54
  go_wp2
  all_goals (go_ret; refine ⟨?_, rfl⟩)
  all_goals (refine congrArg (fun b => Ending.returned (Value.bool b)) (?_ : _ = otherT r); unfold otherT; first | rfl | (rw [Bool.eq_iff_iff]; simp [*]; done) | (rw [Bool.eq_iff_iff]; simp [*]; omega))
theorem otherT_grows (w : World) : PredGrows Tryz.prog 54 #[] otherT w := fun W x _ _ => by
  refine (otherT_any x W).mono ?_
  rintro e w' ⟨rfl, hw⟩
  subst w'
  exact ⟨rfl, Below.refl _ _⟩
theorem idx_other (s : ByteArray) : ∀ (f pos : Nat), s.size - pos ≤ f → decide (0 ≤ idxFuncFrom otherT true s f pos) = !((runes (s.data.toList.drop pos)).all plainRune)
  | 0, pos, hf => by
    rw [List.drop_eq_nil_of_le (by rw [← Lib.size_eq]; omega)]; rfl
  | f + 1, pos, hf => by
    unfold idxFuncFrom
    by_cases hlt : pos < s.size
    · have hw := decode_le s pos hlt
      rw [if_pos hlt, runes_step _ (drop_ne s pos hlt), Lib.decodeL_drop, List.all_cons, List.drop_drop]
      cases ho : otherT (Utf8.decode s pos).1 with
      | true =>
        rw [otherT_plain, Bool.not_eq_true'] at ho
        rw [if_pos rfl, ho]
        simp
      | false =>
        rw [otherT_plain, Bool.not_eq_false'] at ho
        rw [if_neg (by decide), ho, idx_other s f _ (by omega)]
        simp
    · rw [if_neg hlt, List.drop_eq_nil_of_le (by rw [← Lib.size_eq]; omega)]; rfl
theorem has_other (s : ByteArray) : decide (0 ≤ idxFunc otherT true s) = !((runes s.data.toList).all plainRune) := by
  have := idx_other s s.size 0 (by omega)
  rwa [List.drop_zero] at this

/-- What Read leaves: its list, a place, a number. -/
def PostR (x : List Tk × Nat × Nat) (w : World) (e : Ending) (w' : World) : Prop :=
  ∃ v, e = .returned (.tuple #[v, .int .i64 x.2.1, .int .i64 x.2.2]) ∧ TokSl w' v x.1 ∧ Below w.heap.size w w'

/-- The same; the list's slice has room for what it holds. -/
def PostRc (x : List Tk × Nat × Nat) (w : World) (e : Ending) (w' : World) : Prop :=
  ∃ v, e = .returned (.tuple #[v, .int .i64 x.2.1, .int .i64 x.2.2]) ∧ TokSl w' v x.1 ∧ (∀ A n c, v = .slice A n c → n ≤ c) ∧ Below w.heap.size w w'
theorem PostRc.less {x : List Tk × Nat × Nat} {w : World} {e : Ending} {w' : World} (h : PostRc x w e w') : PostR x w e w' := by
  obtain ⟨v, h1, h2, _, h4⟩ := h
  exact ⟨v, h1, h2, h4⟩
theorem cap_nil : ∀ (A : Option Addr) (n c : Nat), Value.slice none 0 0 = .slice A n c → n ≤ c := by
  intro A n c h
  injection h with _ h1 h2
  omega

set_option maxRecDepth 100000 in
set_option maxHeartbeats 2000000 in
theorem tRead_utf (s : ByteArray) (w : World) (hs : s.size ≤ 1000000) (hv : validD s.data.toList = false) (hT : Tabs w) :
    Calls Tryz.prog 30 #[.string s] w (PostRc ([], 0, 40) w) := by
  have hR := fun wx hx => Right_any s wx hs hx
  rw [hv] at hR
  clear hv
  refine (callsIn_wide (n := 0)).1 ?_
  refine callsIn_of_wp_marks Tryz.func30 rfl trivial ?_ rfl
  refine wpIn_wide.2 ?_
  simp only [Tryz.ntmps30, List.size_toArray, List.length_cons, List.length_nil, Nat.reduceAdd, Nat.reduceSub, Array.replicate_succ, Array.replicate_zero, List.push_toArray, List.append_toArray, List.nil_append, List.cons_append]
  obtain ⟨N, hN⟩ : ∃ N, w.heap.size = N := ⟨_, rfl⟩
  have hb0 : Below N w (((w.alloc (.cells #[.slice none 0 0] 22)).alloc (.cells #[.int .i64 0] 3)).alloc (.cells #[.int .i64 0] 31)) := (((Below.refl N w).alloc (by omega) _).alloc (by simp; omega) _).alloc (by simp; omega) _
  go_wp2_with fail
  refine (hR _ (hT.below (hN ▸ hb0))).mono ?_
  rintro e w1 ⟨rfl, hb1⟩
  obtain ⟨b0, b1, b2⟩ := boxes3 w 22 3 31 (.slice none 0 0) (.int .i64 0) (.int .i64 0)
  rw [hN] at b0 b1 b2
  replace b0 := boxed_below b0 hb1
  replace b1 := boxed_below b1 hb1
  replace b2 := boxed_below b2 hb1
  have hb2 := hb0.trans (hb1.mono (by have := hb0.size; omega))
  have c0 := b0.cell; have f0 := b0.frozen
  have c1 := b1.cell; have f1 := b1.frozen
  have c2 := b2.cell; have f2 := b2.frozen
  go_wp2
  obtain ⟨e1, e2, e3, hb3⟩ := set3 hb2 b0 b1 b2 (by omega) (.slice none 0 0) (.int .i64 0) (.int .i64 40)
  refine ⟨.tuple #[.slice none 0 0, .int .i64 0, .int .i64 40], by simp [results, Tryz.f30, go_sem, e1, e2, e3], ?_⟩
  exact ⟨_, rfl, TokSl.nil _, cap_nil, by rw [hN]; exact hb3⟩

set_option maxRecDepth 100000 in
set_option maxHeartbeats 2000000 in
theorem tRead_sign (s : ByteArray) (w : World) (hs : s.size ≤ 1000000) (hv : validD s.data.toList = true) (hp : (runes s.data.toList).all plainRune = false) (hT : Tabs w) :
    Calls Tryz.prog 30 #[.string s] w (PostRc ([], 0, 80) w) := by
  have hR := fun wx hx => Right_any s wx hs hx
  rw [hv] at hR
  clear hv
  have hC := fun wx => Tryz.strings_ContainsFunc_grows 54 #[] (enters_of Tryz.func54 (by kernel_rfl) rfl) otherT s wx (otherT_grows wx)
  rw [has_other, hp] at hC
  clear hp
  refine (callsIn_wide (n := 0)).1 ?_
  refine callsIn_of_wp_marks Tryz.func30 rfl trivial ?_ rfl
  refine wpIn_wide.2 ?_
  simp only [Tryz.ntmps30, List.size_toArray, List.length_cons, List.length_nil, Nat.reduceAdd, Nat.reduceSub, Array.replicate_succ, Array.replicate_zero, List.push_toArray, List.append_toArray, List.nil_append, List.cons_append]
  obtain ⟨N, hN⟩ : ∃ N, w.heap.size = N := ⟨_, rfl⟩
  have hb0 : Below N w (((w.alloc (.cells #[.slice none 0 0] 22)).alloc (.cells #[.int .i64 0] 3)).alloc (.cells #[.int .i64 0] 31)) := (((Below.refl N w).alloc (by omega) _).alloc (by simp; omega) _).alloc (by simp; omega) _
  go_wp2_with fail
  refine (hR _ (hT.below (hN ▸ hb0))).mono ?_
  rintro e w1 ⟨rfl, hb1⟩
  obtain ⟨b0, b1, b2⟩ := boxes3 w 22 3 31 (.slice none 0 0) (.int .i64 0) (.int .i64 0)
  rw [hN] at b0 b1 b2
  replace b0 := boxed_below b0 hb1
  replace b1 := boxed_below b1 hb1
  replace b2 := boxed_below b2 hb1
  have hb2 := hb0.trans (hb1.mono (by have := hb0.size; omega))
  go_wp2_with fail
  refine (hC _).mono ?_
  rintro e w2 ⟨rfl, hb3⟩
  replace b0 := boxed_below b0 hb3
  replace b1 := boxed_below b1 hb3
  replace b2 := boxed_below b2 hb3
  have hb4 := hb2.trans (hb3.mono (by have := hb2.size; omega))
  clear hb2 hb3 hC hR
  have c0 := b0.cell; have f0 := b0.frozen
  have c1 := b1.cell; have f1 := b1.frozen
  have c2 := b2.cell; have f2 := b2.frozen
  go_wp2
  obtain ⟨e1, e2, e3, hb5⟩ := set3 hb4 b0 b1 b2 (by omega) (.slice none 0 0) (.int .i64 0) (.int .i64 80)
  refine ⟨.tuple #[.slice none 0 0, .int .i64 0, .int .i64 80], by simp [results, Tryz.f30, go_sem, e1, e2, e3], ?_⟩
  exact ⟨_, rfl, TokSl.nil _, cap_nil, by rw [hN]; exact hb5⟩
end Go.Proofs.YtiinnnbpbnojgaaGreatDoor

/- What is proved: package tok's Read, at every text: the range over pieces. -/
namespace Go.Proofs.YtiinnnbpbnojgaaGreatDoor
open Go Go.RowKit Go.Lib
set_option linter.unusedSimpArgs false
set_option linter.unusedVariables false
attribute [local go_sem] Oper.semAt_some wide_fn wide_depth

theorem info_tok : (Tryz.prog.info? 39).map (fun i => (i.zero, i.size, i.bytes)) = some (some (.agg #[.int .i64 0, .string ⟨#[]⟩, .int .i64 0]), 3, 32) := by kernel_rfl
/-- A row of pieces of the call's own. -/
def OwnT (w : World) (B : Nat) (v : Value) (ts : List Tk) : Prop := w.ownsRow B 39 3 v ts.length (ts.flatMap tkCells)
theorem flat_len : ∀ ts : List Tk, (ts.flatMap tkCells).length = ts.length * 3
  | [] => rfl
  | t :: r => by rw [List.flatMap_cons, List.length_append, flat_len r]; simp [tkCells]; omega
theorem flat_at : ∀ (ts : List Tk) (k : Nat), k < ts.length → (ts.flatMap tkCells)[k * 3]? = some (.int .i64 (ts.getD k ⟨0, [], 0⟩).kind) ∧ (ts.flatMap tkCells)[k * 3 + 1]? = some (.string ⟨(ts.getD k ⟨0, [], 0⟩).str.toArray⟩) ∧ (ts.flatMap tkCells)[k * 3 + 2]? = some (.int .i64 (ts.getD k ⟨0, [], 0⟩).at_)
  | [], k, h => by simp at h
  | t :: r, 0, h => ⟨rfl, rfl, rfl⟩
  | t :: r, k + 1, h => by
    have := flat_at r k (by simpa using h)
    rw [List.flatMap_cons, show (k + 1) * 3 = 3 + k * 3 by omega]
    have e : ∀ j, (tkCells t ++ r.flatMap tkCells)[3 + j]? = (r.flatMap tkCells)[j]? := fun j => by
      rw [List.getElem?_append_right (by simp [tkCells])]; simp [tkCells]
    rw [show 3 + k * 3 + 1 = 3 + (k * 3 + 1) by omega, show 3 + k * 3 + 2 = 3 + (k * 3 + 2) by omega, e, e, e]
    exact this
theorem OwnT.sl {w : World} {B : Nat} {v : Value} {ts : List Tk} (h : OwnT w B v ts) : TokSl w v ts := by
  rcases h.2 with ⟨hv, h0⟩ | ⟨g, cap, cur, hv, _, hg, hnc, hcm, hsz, htake⟩
  · rw [hv]
    have : ts = [] := List.eq_nil_of_length_eq_zero h0
    subst this
    exact TokSl.nil w
  · refine ⟨some ⟨g, 0, none⟩, cap, hv, fun k hk => ⟨g, 0, rfl, (Array.getElem?_eq_some_iff.1 hg).1, ?_⟩⟩
    obtain ⟨f0, f1, f2⟩ := flat_at ts k hk
    have hc : ∀ j u, (ts.flatMap tkCells)[j]? = some u → w.cell? ⟨g, 0 + j, none⟩ = some u := fun j u hu => by
      rw [Nat.zero_add, cell_of_row w g j cur 39 (0, 0) hg]
      rw [← htake, List.getElem?_take] at hu
      split at hu
      · rw [Array.getElem?_toList] at hu; exact hu
      · cases hu
    exact ⟨hc _ _ f0, hc _ _ f1, hc _ _ f2⟩
theorem OwnT.cap {w : World} {B : Nat} {v : Value} {ts : List Tk} (h : OwnT w B v ts) : ∀ (A : Option Addr) (n c : Nat), v = .slice A n c → n ≤ c := by
  intro A n c e
  rcases h.2 with ⟨rfl, h0⟩ | ⟨g, cap, cur, rfl, _, _, hnc, _⟩
  · injection e with _ e1 e2; omega
  · injection e with _ e1 e2; omega
theorem OwnT.turn {C : Nat → Prop} {n B : Nat} {v : Value} {ts : List Tk} {X Y : World} (h : OwnT X B v ts) (ht : Turn C n X Y) (hC : ∀ k, C k → ∃ T, T ≠ 39 ∧ KindAt X k T) : OwnT Y B v ts := by
  refine ⟨h.1, ?_⟩
  rcases h.2 with h0 | ⟨g, cap, cur, hv, hb, hg, hr⟩
  · exact .inl h0
  · have hng : ¬ C g := fun hc => by obtain ⟨T, h1, h2⟩ := hC g hc; exact h2.ne hg h1 rfl
    exact .inr ⟨g, cap, cur, hv, hb, ht.heap hg hng rfl, hr⟩

theorem toks_len {l : List UInt8} (hv : validD l = true) : ∀ (f p d : Nat), (toksF l f p d).length ≤ l.length - p
  | 0, p, d => by simp [toksF]
  | f + 1, p, d => by
    rcases Nat.lt_or_ge p l.length with hp | hp
    · rw [toksF_succ hp]
      split
      · have := toks_len hv f (p + 1) d; omega
      · split
        · simp
        · cases ho : oneT l p d with
          | ok k t q d' =>
            have h1 := (oneT_ok hv hp ho).1
            have := toks_len hv f q d'
            simp only [List.length_cons]; omega
          | bad e => simp; omega
    · rw [toksF_ge hp]; simp
theorem OwnT.keep {X Y : World} {B : Nat} {v : Value} {ts : List Tk} (h : OwnT X B v ts) (hk : ∀ (j : Nat) (c : Array Value), X.heap[j]? = some (Obj.cells c 39 (0, 0)) → Y.heap[j]? = some (Obj.cells c 39 (0, 0))) : OwnT Y B v ts := by
  refine ⟨h.1, ?_⟩
  rcases h.2 with h0 | ⟨g, cap, cur, hv, hb, hg, hr⟩
  · exact .inl h0
  · exact .inr ⟨g, cap, cur, hv, hb, hk g cur hg, hr⟩
theorem tok_ne {X : World} {j k : Nat} {c : Array Value} {T : TypeId} {u : Value} (hj : X.heap[j]? = some (Obj.cells c 39 (0, 0))) (hk : Boxed X k T u) (hT : T ≠ 39) : j ≠ k := by
  rintro rfl
  rw [show X.heap[j]? = _ from hk] at hj
  injection hj with hj; injection hj with _ hj
  exact hT hj
theorem own_row {w : World} {B : Nat} {v : Value} {ts : List Tk} (h : OwnT w B v ts) {k : Nat} (hk : v.ownBlock = some k) : B ≤ k ∧ ∃ cur, w.heap[k]? = some (.cells cur 39 (0, 0)) := by
  rcases h.2 with ⟨rfl, _⟩ | ⟨g, cap, cur, rfl, hb, hg, _⟩
  · simp [Value.ownBlock] at hk
  · simp [Value.ownBlock] at hk
    subst hk
    exact ⟨hb, cur, hg⟩
theorem badOf_snoc : ∀ (pre : List TP) (k : Nat) (t : List UInt8) (p : Nat), badOf (pre ++ [.tok k t p]) = badOf pre
  | [], _, _, _ => rfl
  | .tok _ _ _ :: r, k, t, p => badOf_snoc r k t p
  | .bad _ _ :: _, _, _, _ => rfl
theorem bad_of_app : ∀ (pre rest : List TP), badOf pre = none → badOf (pre ++ rest) = badOf rest
  | [], _, _ => rfl
  | .tok _ _ _ :: r, rest, h => bad_of_app r rest h
  | .bad _ _ :: _, _, h => by cases h
/-- A piece is laid behind the others. -/
theorem put_tok {C : Nat → Prop} {N M B : Nat} {Wb w5 : World} {v v' : Value} {ts : List Tk} {x : Tk} {o : Obj} (hN : N ≤ M) (hB : N ≤ B) (hBz : B ≤ Wb.heap.size) (hMC : ¬ C M) (h2 : Boxed Wb M 22 v) (h3 : OwnT Wb B v ts) (hC : ∀ j, C j → ∃ T, T ≠ 39 ∧ KindAt Wb j T)
    (hown : w5.ownsRow B 39 3 v' (ts.length + 1) (ts.flatMap tkCells ++ tkCells x)) (hg : (Wb.alloc o).grownBy w5 v.ownBlock) :
    Keeps noCells C N Wb (w5.setCell ⟨M, 0, none⟩ v') ∧ Boxed (w5.setCell ⟨M, 0, none⟩ v') M 22 v' ∧ OwnT (w5.setCell ⟨M, 0, none⟩ v') B v' (ts ++ [x]) ∧ w5.cell? ⟨M, 0, none⟩ = some v ∧ w5.frozen? ⟨M, 0, none⟩ = false ∧
    (∀ (j : Nat) (T : TypeId) (c : Array Value), T ≠ 39 → j ≠ M → Wb.heap[j]? = some (Obj.cells c T (0, 0)) → (w5.setCell ⟨M, 0, none⟩ v').heap[j]? = some (Obj.cells c T (0, 0))) ∧ (∀ (j : Nat) (T : TypeId), T ≠ 39 → j ≠ M → KindAt Wb j T → KindAt (w5.setCell ⟨M, 0, none⟩ v') j T) := by
  have hrow : ∀ j (c : Array Value) (T : TypeId) (fz : Nat × Nat), T ≠ 39 → Wb.heap[j]? = some (Obj.cells c T fz) → w5.heap[j]? = some (Obj.cells c T fz) := fun j c T fz hT hj => by
    have hjl : j < Wb.heap.size := (Array.getElem?_eq_some_iff.1 hj).1
    refine (hg.block j (by simp; omega) (fun e => ?_)).trans ((Below.heap_alloc Wb o j hjl).trans hj)
    obtain ⟨_, cur, hc⟩ := own_row h3 e.symm
    rw [hj] at hc
    injection hc with hc; injection hc with _ hc
    exact hT hc
  have hM5 : Boxed w5 M 22 v := hrow M _ 22 _ (by decide) h2
  refine ⟨?_, hM5.set v', ?_, hM5.cell, hM5.frozen, fun j T c hT hj hh => (Below.heap_setCell w5 ⟨M, 0, none⟩ v' j hj).trans (hrow j c T _ hT hh), fun j T hT hj ⟨c, fz, hh⟩ => ⟨c, fz, (Below.heap_setCell w5 ⟨M, 0, none⟩ v' j hj).trans (hrow j c T fz hT hh)⟩⟩
  · refine ((Keeps.alloc Wb o).trans (Keeps.grown hg (fun k hk => ?_))).trans (Keeps.setCell w5 ⟨M, 0, none⟩ v' hN hMC)
    obtain ⟨hb, cur, hc⟩ := own_row h3 hk
    have hkl : k < Wb.heap.size := (Array.getElem?_eq_some_iff.1 hc).1
    refine ⟨by omega, fun hck => ?_, fun o' ho' => ?_⟩
    · obtain ⟨T, hT, c, fz, hh⟩ := hC k hck
      rw [hc] at hh
      injection hh with hh; injection hh with _ hh
      exact hT hh.symm
    · rw [Below.heap_alloc Wb o k hkl, hc] at ho'
      injection ho' with ho'
      rw [← ho']; rfl
  · refine ⟨by rw [flat_len], ?_⟩
    rcases hown.2 with ⟨_, h0⟩ | ⟨g, cap, cur, hv, hb, hgc, h4, h5, h6, h7⟩
    · omega
    · refine .inr ⟨g, cap, cur, by rw [hv]; simp, hb, (Below.heap_setCell w5 ⟨M, 0, none⟩ v' g (fun e => ?_)).trans hgc, by simpa using h4, h5, h6, by rw [List.flatMap_append, List.length_append]; simpa using h7⟩
      have e' : g = M := e
      subst e'
      rw [show w5.heap[g]? = _ from hM5] at hgc
      injection hgc with hgc; injection hgc with _ hgc
      exact absurd hgc (by decide)

set_option maxRecDepth 100000 in
set_option maxHeartbeats 4000000 in
theorem tRead_main (s : ByteArray) (w : World) (hs : s.size ≤ 100000) (hv : validD s.data.toList = true) (hp : (runes s.data.toList).all plainRune = true) (hT : Tabs w) (hE : ErrTy w) :
    Calls Tryz.prog 30 #[.string s] w (PostRc (foldT (toksT s.data.toList 0 0) []) w) := by
  have hR := fun wx hx => Right_any s wx (by omega) hx
  rw [hv] at hR
  have hC := fun wx => Tryz.strings_ContainsFunc_grows 54 #[] (enters_of Tryz.func54 (by kernel_rfl) rfl) otherT s wx (otherT_grows wx)
  rw [has_other, hp] at hC
  clear hp
  have hit := fun R Bb n₀ (hN : w.heap.size ≤ n₀) (hR0 : w.heap.size ≤ R) (hB : w.heap.size ≤ Bb) (hne : Bb ≠ R) => tpieces_iter s R Bb n₀ w hT hN hR0 hB hne (by omega) hv
  obtain ⟨ps, hps⟩ : ∃ ps, toksT s.data.toList 0 0 = ps := ⟨_, rfl⟩
  have hpl : ps.length ≤ s.size := by rw [← hps]; have := toks_len hv (s.data.toList.length + 1 - 0) 0 0; unfold toksT; rw [Lib.size_eq]; omega
  rw [hps] at hit ⊢
  have HPL := hid hpl
  have HIT := hid hit
  clear hpl hps hit hv
  refine (callsIn_wide (n := 0)).1 ?_
  refine callsIn_of_wp_marks Tryz.func30 rfl trivial ?_ rfl
  refine wpIn_wide.2 ?_
  simp only [Tryz.ntmps30, List.size_toArray, List.length_cons, List.length_nil, Nat.reduceAdd, Nat.reduceSub, Array.replicate_succ, Array.replicate_zero, List.push_toArray, List.append_toArray, List.nil_append, List.cons_append]
  obtain ⟨N, hN⟩ : ∃ N, w.heap.size = N := ⟨_, rfl⟩
  have hb0 : Below N w (((w.alloc (.cells #[.slice none 0 0] 22)).alloc (.cells #[.int .i64 0] 3)).alloc (.cells #[.int .i64 0] 31)) := (((Below.refl N w).alloc (by omega) _).alloc (by simp; omega) _).alloc (by simp; omega) _
  go_wp2_with fail
  refine (hR _ (hT.below (hN ▸ hb0))).mono ?_
  rintro e w1 ⟨rfl, hb1⟩
  obtain ⟨b0, b1, b2⟩ := boxes3 w 22 3 31 (.slice none 0 0) (.int .i64 0) (.int .i64 0)
  rw [hN] at b0 b1 b2
  replace b0 := boxed_below b0 hb1
  replace b1 := boxed_below b1 hb1
  replace b2 := boxed_below b2 hb1
  have hb2 := hb0.trans (hb1.mono (by have := hb0.size; omega))
  clear hb0 hb1 hR
  go_wp2_with fail
  refine (hC _).mono ?_
  rintro e w2 ⟨rfl, hb3⟩
  replace b0 := boxed_below b0 hb3
  replace b1 := boxed_below b1 hb3
  replace b2 := boxed_below b2 hb3
  have hb4 := hb2.trans (hb3.mono (by have := hb2.size; omega))
  clear hb2 hb3 hC
  obtain ⟨M, hM⟩ : ∃ M, w2.heap.size = M := ⟨_, rfl⟩
  have hNM : N + 1 + 1 < M := by have := b2.lt; omega
  have hb5 : Below N w ((w2.alloc (.cells #[.slice none 0 0] 22)).alloc (.cells #[.string s, .int .i64 0, .int .i64 0] 136)) := (hb4.alloc (by have := hb4.size; omega) _).alloc (by have := hb4.size; simp; omega) _
  have bo : Boxed ((w2.alloc (.cells #[.slice none 0 0] 22)).alloc (.cells #[.string s, .int .i64 0, .int .i64 0] 136)) M 22 (.slice none 0 0) := by rw [← hM]; exact (Boxed.new w2 _ _).alloc _
  have hr : RA ((w2.alloc (.cells #[.slice none 0 0] 22)).alloc (.cells #[.string s, .int .i64 0, .int .i64 0] 136)) (M + 1) s 0 0 := by
    have := World.alloc_heap_new (w2.alloc (.cells #[.slice none 0 0] 22)) (.cells #[.string s, .int .i64 0, .int .i64 0] 136)
    rw [World.size_alloc, hM] at this
    exact this
  replace b0 := (b0.alloc (.cells #[.slice none 0 0] 22)).alloc (.cells #[.string s, .int .i64 0, .int .i64 0] 136)
  replace b1 := (b1.alloc (.cells #[.slice none 0 0] 22)).alloc (.cells #[.string s, .int .i64 0, .int .i64 0] 136)
  replace b2 := (b2.alloc (.cells #[.slice none 0 0] 22)).alloc (.cells #[.string s, .int .i64 0, .int .i64 0] 136)
  have hz3 : ((w2.alloc (.cells #[.slice none 0 0] 22)).alloc (.cells #[.string s, .int .i64 0, .int .i64 0] 136)).heap.size = M + 1 + 1 := by simp [hM]
  obtain ⟨w3, hw3⟩ : ∃ w3, (w2.alloc (.cells #[.slice none 0 0] 22)).alloc (.cells #[.string s, .int .i64 0, .int .i64 0] 136) = w3 := ⟨_, rfl⟩
  rw [hw3] at hb5 b0 b1 b2 bo hr hz3
  have HW3 := hid hw3
  clear hw3 hb4
  go_wp2_with fail
  refine (tpieces_any (M + 1) _).mono ?_
  rintro e w4 ⟨rfl, hw4⟩
  rw [show (w2.alloc (.cells #[.slice none 0 0] 22)).alloc (.cells #[.string s, .int .i64 0, .int .i64 0] 136) = w3 from HW3.out] at hw4 ⊢
  rw [hz3]
  have hz4 : w4.heap.size = M + 1 + 1 + 1 := by rw [hw4]; simp [hz3]
  have hBox : Boxed w4 (M + 1 + 1) 132 (.pointer (some ⟨M + 1, 0, none⟩)) := by rw [hw4, ← hz3]; exact Boxed.new _ _ _
  have hb6 : Below N w w4 := by rw [hw4]; exact hb5.alloc (by have := hb5.size; omega) _
  replace hr : RA w4 (M + 1) s 0 0 := by rw [hw4]; exact hr.alloc _
  replace bo : Boxed w4 M 22 (.slice none 0 0) := by rw [hw4]; exact bo.alloc _
  replace b0 : Boxed w4 N 22 (.slice none 0 0) := by rw [hw4]; exact b0.alloc _
  replace b1 : Boxed w4 (N + 1) 3 (.int .i64 0) := by rw [hw4]; exact b1.alloc _
  replace b2 : Boxed w4 (N + 1 + 1) 31 (.int .i64 0) := by rw [hw4]; exact b2.alloc _
  clear hw4 hb5
  go_wp2
  refine (wpIn_wide (n := 0)).1 ?_
  refine rangeFunc_lawB (gf := 91) (lb := #[.pointer (some ⟨M + 1 + 1, 0, none⟩)]) rfl (enters_of Tryz.func91 (by kernel_rfl) rfl) (HIT.out (M + 1) (M + 1 + 1) N (by omega) (by omega) (by omega) (by omega))
    (fun Y hY => ⟨hr.below hY, boxed_below hBox hY, hN ▸ hb6.trans (hY.mono (by have := hb6.size; omega))⟩) (fun k hk => by omega) (by omega) (fun x => by cases x <;> rfl)
    (fun pre W => ∃ v ts, Hid (badOf pre = none ∧ ts = pre.map tkOf) ∧ Boxed W M 22 v ∧ OwnT W (M + 1) v ts ∧ KindAt W (M + 1) 136 ∧ KindAt W (M + 1 + 1) 132 ∧ Boxed W N 22 (.slice none 0 0) ∧ Boxed W (N + 1) 3 (.int .i64 0) ∧ Boxed W (N + 1 + 1) 31 (.int .i64 0) ∧ Below N w W ∧ M + 1 + 1 < W.heap.size)
    (fun co pre W => co = .ret ∧ ∃ p e : Nat, Hid (foldT ps [] = ([], p, e)) ∧ Boxed W N 22 (.slice none 0 0) ∧ Boxed W (N + 1) 3 (.int .i64 p) ∧ Boxed W (N + 1 + 1) 31 (.int .i64 e) ∧ Below N w W)
    ?hI ?hIx ?hbad ⟨.slice none 0 0, [], hid ⟨rfl, rfl⟩, bo, ⟨rfl, .inl ⟨rfl, rfl⟩⟩, ⟨_, _, hr⟩, ⟨_, _, hBox⟩, b0, b1, b2, hb6, by omega⟩ ?round ?done ?stop
  case hI =>
    rintro pre X Y ⟨v, ts, h1, h2, h3, k1, k2, h4, h5, h6, h7, h8⟩ ht
    exact ⟨v, ts, h1, boxed_turn h2 ht (by omega), h3.turn ht (fun k hk => by rcases hk with rfl | rfl; exact ⟨_, by decide, k2⟩; exact ⟨_, by decide, k1⟩), k1.turn ht, k2.turn ht,
      boxed_turn h4 ht (by omega), boxed_turn h5 ht (by omega), boxed_turn h6 ht (by omega), ht.below h7 (fun k hk => by omega) (by omega) (by omega), Nat.lt_of_lt_of_le h8 ht.size⟩
  case hIx =>
    rintro co pre X Y ⟨h1, p, e, h2, h3, h4, h5, h6⟩ ht
    exact ⟨h1, p, e, h2, boxed_turn h3 ht (by omega), boxed_turn h4 ht (by omega), boxed_turn h5 ht (by omega), ht.below h6 (fun k hk => by omega) (by omega) (by omega)⟩
  case hbad =>
    rintro pre X hb ⟨v, ts, h1, _⟩
    exact hb h1.out.1
  case round =>
    rintro l pre x W hl ⟨v, ts, h1, h2, h3, k1, k2, h4, h5, h6, h7, h8⟩ hpre
    have HPR := hid hpre
    clear hpre
    cases x with
    | tok k t p =>
      unfold encT tkV
      gi_wp2
      refine ⟨Keeps.alloc W _, fun Wb ht _ => ?_⟩
      have hta : Turn (fun k => k = M + 1 + 1 ∨ k = M + 1) w4.heap.size W Wb := (Turn.alloc W _).trans ht
      have hTB : Wb.heap[W.heap.size]? = some (.cells #[.int .i64 k, .string ⟨t.toArray⟩, .int .i64 p] 39) := ht.heap (World.alloc_heap_new W _) (fun hc => by omega) rfl
      have hkp : Keeps noCells (fun k => k = M + 1 + 1 ∨ k = M + 1) N Wb Wb := Keeps.refl _ _ _ _
      have hkC : ∀ j, (j = M + 1 + 1 ∨ j = M + 1) → ∃ T, T ≠ 39 ∧ KindAt W j T := fun j hj => by rcases hj with rfl | rfl; exact ⟨_, by decide, k2⟩; exact ⟨_, by decide, k1⟩
      replace h2 := boxed_turn h2 hta (by omega)
      replace h3 := h3.turn hta hkC
      replace h4 := boxed_turn h4 hta (by omega)
      replace h5 := boxed_turn h5 hta (by omega)
      replace h6 := boxed_turn h6 hta (by omega)
      replace h7 := hta.below h7 (fun k hk => by omega) (by omega) (by omega)
      replace k1 := k1.turn hta
      replace k2 := k2.turn hta
      have hWz : W.heap.size ≤ Wb.heap.size := hta.size
      replace h8 := Nat.lt_of_lt_of_le h8 hta.size
      clear ht hta hkC
      obtain ⟨i0, hi, hz0, hz1, hz2⟩ := info_parts info_tok
      have hu : Tryz.prog.underlying 22 = some (.slice 39) := by kernel_rfl
      have HU := hid hu
      clear hu
      obtain ⟨t0, t1, t2, _⟩ := blk3 hTB
      have c1 := h2.cell; have f1 := h2.frozen
      have hTl : W.heap.size < Wb.heap.size := (Array.getElem?_eq_some_iff.1 hTB).1
      have hMl : M < Wb.heap.size := by omega
      have htl : ts.length ≤ 100000 := by
        have e1 := HPR.out.length_le
        have e2 := HPL.out
        rw [h1.out.2, List.length_map]
        simp at e1
        omega
      have hown0 : Wb.ownsRow (M + 1) 39 3 v ts.length (ts.flatMap tkCells) := h3
      gi_wp2_with (first
        | (gi_at_builtin; refine wpListIn_append_own _ rfl _ _ 22 rfl (M + 1) 39 i0 (.agg #[.int .i64 0, .string ⟨#[]⟩, .int .i64 0]) 3 32 HU.out hi hz0 hz1 hz2 rfl (by decide) _ _ _ rfl (hown0.alloc _) ⟨Wb.heap.size, 0, none⟩ 1 1 [.int .i64 k, .string ⟨t.toArray⟩, .int .i64 p] rfl rfl ?c1 ?c2 ?c3 ?c4 ?c5 ?_))
      case c1 =>
        intro j u hj
        match j, hj with
        | 0, hj => simp at hj; subst hj; simp [Addr.add]
        | 1, hj => simp at hj; subst hj; simp [Addr.add]
        | 2, hj => simp at hj; subst hj; simp [Addr.add]
      case c2 => intro u hu; simp at hu; rcases hu with rfl | rfl | rfl <;> rfl
      case c3 => unfold maxLen; omega
      case c4 => omega
      case c5 => simp; omega
      intro v' w5 hown hgrow _
      obtain ⟨q1, q2, q3, q4, q5, q6, q7⟩ := put_tok (C := fun k => k = M + 1 + 1 ∨ k = M + 1) (N := N) (M := M) (x := ⟨k, t, p⟩) (by omega) (by omega) (by omega) (by omega) h2 h3 (fun j hj => by rcases hj with rfl | rfl; exact ⟨_, by decide, k2⟩; exact ⟨_, by decide, k1⟩) hown hgrow
      have FIN := hid (show Keeps noCells (fun k => k = M + 1 + 1 ∨ k = M + 1) N Wb (w5.setCell ⟨M, 0, none⟩ v') ∧ ∃ v ts, Hid (badOf (pre ++ [TP.tok k t p]) = none ∧ ts = (pre ++ [TP.tok k t p]).map tkOf) ∧ Boxed (w5.setCell ⟨M, 0, none⟩ v') M 22 v ∧ OwnT (w5.setCell ⟨M, 0, none⟩ v') (M + 1) v ts ∧ KindAt (w5.setCell ⟨M, 0, none⟩ v') (M + 1) 136 ∧ KindAt (w5.setCell ⟨M, 0, none⟩ v') (M + 1 + 1) 132 ∧ Boxed (w5.setCell ⟨M, 0, none⟩ v') N 22 (.slice none 0 0) ∧ Boxed (w5.setCell ⟨M, 0, none⟩ v') (N + 1) 3 (.int .i64 0) ∧ Boxed (w5.setCell ⟨M, 0, none⟩ v') (N + 1 + 1) 31 (.int .i64 0) ∧ Below N w (w5.setCell ⟨M, 0, none⟩ v') ∧ M + 1 + 1 < (w5.setCell ⟨M, 0, none⟩ v').heap.size from
        ⟨q1, v', ts ++ [⟨k, t, p⟩], hid ⟨by rw [badOf_snoc]; exact h1.out.1, by rw [List.map_append, h1.out.2]; rfl⟩, q2, q3, q7 _ _ (by decide) (by omega) k1, q7 _ _ (by decide) (by omega) k2, q6 N _ _ (by decide) (by omega) h4, q6 (N + 1) _ _ (by decide) (by omega) h5, q6 (N + 1 + 1) _ _ (by decide) (by omega) h6, q1.below h7 (Nat.le_refl _) (by omega), Nat.lt_of_lt_of_le h8 q1.size⟩)
      obtain ⟨g, cap, rfl⟩ : ∃ g cap, v' = .slice (some ⟨g, 0, none⟩) (ts.length + 1) cap := by
        rcases hown.2 with ⟨_, h0⟩ | ⟨g, cap, cur, hv, _⟩
        · omega
        · exact ⟨g, cap, hv⟩
      clear q1 q2 q3 q6 q7 hown hgrow h1 h2 h3 k1 k2 h4 h5 h6 h7 hown0 c1 f1 t0 t1 t2 hTB
      gi_wp2
      exact FIN.out
    | bad er p =>
      have HF := hid (show foldT ps [] = ([], p, er) by
        obtain ⟨rest, hrest⟩ := HPR.out
        rw [← hrest, fold_bad, List.append_assoc, bad_of_app _ _ h1.out.1]; rfl)
      unfold encT
      gi_wp2
      refine ⟨Keeps.alloc W _, fun Wb ht _ => ?_⟩
      have hta : Turn (fun k => k = M + 1 + 1 ∨ k = M + 1) w4.heap.size W Wb := (Turn.alloc W _).trans ht
      have hTB : Wb.heap[W.heap.size]? = some (.cells #[.int .i64 0, .string ⟨#[]⟩, .int .i64 p] 39) := ht.heap (World.alloc_heap_new W _) (fun hc => by omega) rfl
      replace h4 := boxed_turn h4 hta (by omega)
      replace h5 := boxed_turn h5 hta (by omega)
      replace h6 := boxed_turn h6 hta (by omega)
      replace h7 := hta.below h7 (fun k hk => by omega) (by omega) (by omega)
      have hWz : W.heap.size ≤ Wb.heap.size := hta.size
      have hTl : W.heap.size < Wb.heap.size := (Array.getElem?_eq_some_iff.1 hTB).1
      have STR := CallsIn.inRound l ((callsIn_wide (n := 0)).2 (told_any er Wb.drew ((hE.below (hN ▸ h7)).below (Below.refl _ _).drew)))
      have fin : ∀ w5, Below Wb.heap.size Wb w5 → w5.cell? ⟨W.heap.size, 2, none⟩ = some (.int .i64 p) ∧ Boxed w5 N 22 (.slice none 0 0) ∧ Boxed w5 (N + 1) 3 (.int .i64 0) ∧ Boxed w5 (N + 1 + 1) 31 (.int .i64 0) ∧ Below N w w5 ∧ W.heap.size < w5.heap.size ∧ Keeps noCells (fun k => k = M + 1 + 1 ∨ k = M + 1) N Wb w5 := fun w5 hb =>
        ⟨(blk3 (heap_below hTB hb)).2.2.1, boxed_below h4 hb, boxed_below h5 hb, boxed_below h6 hb, h7.trans (hb.mono (by omega)), Nat.lt_of_lt_of_le hTl hb.size, Keeps.of_below hb⟩
      have FIN := hid fin
      have t2 := (blk3 hTB).2.2.1
      have c1 := h4.cell; have f1 := h4.frozen
      have c2 := h5.cell; have f2 := h5.frozen
      have c3 := h6.cell; have f3 := h6.frozen
      have hd1 : W.heap.size ≠ N := by omega
      have hd2 : W.heap.size ≠ N + 1 := by omega
      have hd3 : W.heap.size ≠ N + 1 + 1 := by omega
      clear fin h1 h2 h3 k1 k2 ht hta hTB h4 h5 h6 h7
      gi_wp2
      gi_region_with ((gi_at_call 57; refine STR.mono ?_; rintro e w5 ⟨rfl, hb⟩; obtain ⟨e0, e1, e2, e3, e4, e5, e6⟩ := FIN.out w5 ⟨hb.os, hb.tape, hb.output, hb.size, hb.block⟩; have cc1 := e1.cell; have ff1 := e1.frozen; have cc2 := e2.cell; have ff2 := e2.frozen; have cc3 := e3.cell; have ff3 := e3.frozen))
      all_goals (gi_wp2; exact (by
        obtain ⟨q1, q2, q3, q4⟩ := set3_left (C := fun k => k = M + 1 + 1 ∨ k = M + 1) e1 e2 e3 (by omega) (by omega) (by omega) (.slice none 0 0) (.int .i64 p) (.int .i64 er)
        exact ⟨e6.trans q1, rfl, p, er, HF, q2, q3, q4, ((e4.setCell (p := ⟨N, 0, none⟩) (by simp) _).setCell (p := ⟨N + 1, 0, none⟩) (by simp) _).setCell (p := ⟨N + 1 + 1, 0, none⟩) (by simp; omega) _⟩))
  case done =>
    rintro D W hD ⟨v, ts, h1, h2, h3, k1, k2, h4, h5, h6, h7, h8⟩ hK
    obtain ⟨A, cap, rfl⟩ : ∃ A cap, v = .slice A ts.length cap := by
      rcases h3.2 with ⟨hv, h0⟩ | ⟨g, cap, cur, hv, _⟩
      · exact ⟨none, 0, by rw [hv, h0]⟩
      · exact ⟨_, cap, hv⟩
    have c2 := h2.cell; have f2 := h2.frozen
    have c3 := h4.cell; have f3 := h4.frozen
    have c4 := h5.cell; have f4 := h5.frozen
    have c5 := h6.cell; have f5 := h6.frozen
    have HF := hid (show foldT ps [] = (ts, 0, 0) by rw [fold_bad, h1.out.1, h1.out.2]; rfl)
    clear h1 k1 k2
    have hne : M ≠ N := by omega
    have hne1 : M ≠ N + 1 := by omega
    have hne2 : M ≠ N + 1 + 1 := by omega
    go_wp2
    have hK' : (((W.setCell ⟨N, 0, none⟩ (.slice A ts.length cap)).setCell ⟨N + 1, 0, none⟩ (.int .i64 0)).setCell ⟨N + 1 + 1, 0, none⟩ (.int .i64 0)).heap[D]? = some (.deferred (some [])) := (KeepsOthers.setCell _ _ _).same D _ ((KeepsOthers.setCell _ _ _).same D _ ((KeepsOthers.setCell W ⟨N, 0, none⟩ _).same D _ hK rfl) rfl) rfl
    refine ⟨by simp, .inl ⟨_, _, rfl, run_takeDeferred hK', ?_⟩⟩
    have d1 := (boxed_shut (boxed_other (boxed_other (h4.set (.slice A ts.length cap)) (show N ≠ N + 1 by simp) (.int .i64 0)) (show N ≠ N + 1 + 1 by simp; omega) (.int .i64 0)) hK' (.deferred none)).cell
    have d2 := (boxed_shut (boxed_other ((boxed_other h5 (show N + 1 ≠ N by simp) (.slice A ts.length cap)).set (.int .i64 0)) (show N + 1 ≠ N + 1 + 1 by simp) (.int .i64 0)) hK' (.deferred none)).cell
    have d3 := (boxed_shut ((boxed_other (boxed_other h6 (show N + 1 + 1 ≠ N by simp; omega) (.slice A ts.length cap)) (show N + 1 + 1 ≠ N + 1 by simp) (.int .i64 0)).set (.int .i64 0)) hK' (.deferred none)).cell
    refine ⟨.tuple #[.slice A ts.length cap, .int .i64 0, .int .i64 0], by simp [results, Tryz.f30, go_sem, d1, d2, d3], ?_⟩
    rw [HF.out]
    refine ⟨_, rfl, OwnT.sl (B := M + 1) (OwnT.keep h3 (fun j c hj => ?_)), h3.cap, ?_⟩
    · refine (World.putObj_heap_other (fun e => by subst e; rw [hK] at hj; cases hj)).trans ?_
      exact (Below.heap_setCell _ ⟨N + 1 + 1, 0, none⟩ _ j (tok_ne hj h6 (by decide))).trans ((Below.heap_setCell _ ⟨N + 1, 0, none⟩ _ j (tok_ne hj h5 (by decide))).trans ((Below.heap_setCell W ⟨N, 0, none⟩ _ j (tok_ne hj h4 (by decide))).trans hj))
    · rw [hN]; exact below_shut (((h7.setCell (p := ⟨N, 0, none⟩) (by simp) _).setCell (p := ⟨N + 1, 0, none⟩) (by simp) _).setCell (p := ⟨N + 1 + 1, 0, none⟩) (by simp; omega) _) hK' (by omega) (by omega) _
  case stop =>
    rintro D co pre W hD hpre ⟨rfl, p, e, hx, h3, h4, h5, h6⟩ hK
    refine wpIn_wide.2 ?_
    go_wp2
    refine ⟨by simp, .inl ⟨_, _, rfl, run_takeDeferred hK, ?_⟩⟩
    have d1 := (boxed_shut h3 hK (.deferred none)).cell
    have d2 := (boxed_shut h4 hK (.deferred none)).cell
    have d3 := (boxed_shut h5 hK (.deferred none)).cell
    refine ⟨.tuple #[.slice none 0 0, .int .i64 p, .int .i64 e], by simp [results, Tryz.f30, go_sem, d1, d2, d3], ?_⟩
    rw [hx.out]
    refine ⟨_, rfl, TokSl.nil _, cap_nil, ?_⟩
    rw [hN]; exact below_shut h6 hK (by omega) (by omega) _

/-- Package tok's Read. -/
theorem tReadc_any (s : ByteArray) (w : World) (hs : s.size ≤ 100000) (hT : Tabs w) (hE : ErrTy w) :
    Calls Tryz.prog 30 #[.string s] w (PostRc (readT s.data.toList) w) := by
  unfold readT
  cases hv : validD s.data.toList with
  | false => exact tRead_utf s w (by omega) hv hT
  | true =>
    rw [if_pos rfl]
    cases hp : (runes s.data.toList).all plainRune with
    | false => exact tRead_sign s w (by omega) hv hp hT
    | true => exact tRead_main s w hs hv hp hT hE
theorem tRead_any (s : ByteArray) (w : World) (hs : s.size ≤ 100000) (hT : Tabs w) (hE : ErrTy w) :
    Calls Tryz.prog 30 #[.string s] w (PostR (readT s.data.toList) w) := (tReadc_any s w hs hT hE).mono (fun e w' h => h.less)
end Go.Proofs.YtiinnnbpbnojgaaGreatDoor
