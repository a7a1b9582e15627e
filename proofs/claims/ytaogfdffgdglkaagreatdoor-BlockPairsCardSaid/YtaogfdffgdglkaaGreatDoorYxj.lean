/- What is proved: a part of the walk of the program and of its plain laws; no condition beside those that each theorem names. -/
import Derived.Test.YtaogfdffgdglkaaGreatDoorYa
import Derived.Test.YtaogfdffgdglkaaGreatDoorYxi
namespace Go.Proofs.YtaogfdffgdglkaaGreatDoor
open Go Go.RowKit Go.Lib
set_option linter.unusedSimpArgs false
set_option linter.unusedVariables false
section
set_option maxRecDepth 100000
set_option maxHeartbeats 8000000
attribute [local go_sem] Oper.semAt_some CA B0
theorem He {R b n : Nat} (hC : ∀ k, k <= n -> F8 R b k) : ∀ k, k <= n -> Jh R b k
 | 0, _ => fun _ _ _ _ _ _ _ _ _ _ _ _ h => by omega
 | k + 1, h => QS (hC k (by omega))
theorem Pp (x : En) (r : List En) : 1 <= Dw (x :: r) := by rw [AA]; omega
theorem Sl {R b n : Nat} (hC : ∀ k, k <= n -> F8 R b k) (m : Nat) (hm : m <= n) (x : En) (r : List En) (A : Option Addr) (ca d : Nat) (w : World) (h : CE w R b (x :: r)) (hy : DF w R b x.l (.slice A x.l.length ca)) (hg : Gd (x :: r)) (hd : d <= 1000) (hn : 4 * Dw (x :: r) <= m) :
  Calls Tryz.prog 107 #[.pointer (some ⟨R, 0, none⟩), .agg #[.int .i64 x.no, .int .i64 x.col, .slice A x.l.length ca], .int .i64 d] w (BZ R b (AQ m d x r) w) := by
 cases m with
 | zero => have := Pp x r; omega
 | succ m => exact TM (He hC m (by omega)) (hC m (by omega)) x r A ca d w h hy hg hd hn
theorem R1 {R b n : Nat} (hC : ∀ k, k <= n -> F8 R b k) (m : Nat) (hm : m <= n) (x : En) (r : List En) (A : Option Addr) (ca d : Nat) (w : World) (h : CE w R b (x :: r)) (hy : DF w R b x.l (.slice A x.l.length ca)) (hg : Gd (x :: r)) (hkey : Bp x.l = .key) (hd : d <= 1000) (hn : 4 * Dw (x :: r) <= m) :
  Calls Tryz.prog 110 #[.pointer (some ⟨R, 0, none⟩), .agg #[.int .i64 x.no, .int .i64 x.col, .slice A x.l.length ca], .int .i64 d] w (Oy R b (Co x.l).1 (if (Co x.l).2 ≠ 0 then .bad x.no (Co x.l).2 else Bl m d x r) w) := by
 cases m with
 | zero => have := Pp x r; omega
 | succ m => exact QI (He hC m (by omega)) x r A ca d w h hy hg hkey hd hn
def Ma (d : Nat) : Nat -> List En -> List Tr -> Nat × List En × List Tr
 | n + 1, x :: r, acc => match AQ n (d + 1) x r with
  | .ok t rest => (n, rest, acc ++ [t])
  | _ => (n, r, acc)
 | _, _, acc => (0, [], acc)
theorem I9 (d n : Nat) (x : En) (r : List En) (acc : List Tr) : Ma d (n + 1) (x :: r) acc = match AQ n (d + 1) x r with | .ok t rest => (n, rest, acc ++ [t]) | _ => (n, r, acc) := rfl
def OO (d : Nat) (s : Nat × List En × List Tr) : Nat × List En × List Tr := Ma d s.1 s.2.1 s.2.2
def Jd (d n : Nat) (es : List En) (pre : List EL) : Nat × List En × List Tr := pre.foldl (fun s _ => OO d s) (n, es, [])
theorem MH (d n : Nat) (es : List En) (pre : List EL) (y : EL) : Jd d n es (pre ++ [y]) = OO d (Jd d n es pre) := by
 unfold Jd; rw [List.foldl_append]; rfl
def F6 (d n : Nat) (es : List En) (pre : List EL) : List En := (Jd d n es pre).2.1
theorem Q3 (d n : Nat) (es : List En) (pre : List EL) (y : EL) (r : List En) (h : F6 d n es pre = y.1 :: r) : (F6 d n es (pre ++ [y])).length <= r.length := by
 unfold F6 at h |-
 rw [MH]
 unfold OO
 generalize Jd d n es pre = z at h |-
 obtain ⟨m, l, acc⟩ := z
 have h : l = y.1 :: r := h
 subst h
 show (Ma d m (y.1 :: r) acc).2.1.length <= r.length
 cases m with
 | zero => simp [Ma]
 | succ m =>
  rw [I9]
  cases hi : AQ m (d + 1) y.1 r with
  | ok t rest => exact ((suffix m).2.2.1 _ _ _ _ _ hi).sublist.length_le
  | bad no e => exact Nat.le_refl _
  | out => exact Nat.le_refl _
structure Tb (d n : Nat) (col : Int) (es : List En) (r0 : BR) (pre : List EL) : Prop where
 v : Bn (Jd d n es pre).1 col d (Jd d n es pre).2.1 (Jd d n es pre).2.2 = r0
 f : 4 * Dw (Jd d n es pre).2.1 + 1 <= (Jd d n es pre).1
 nn : (Jd d n es pre).1 + (Jd d n es pre).2.2.length <= n
 g : Gd (Jd d n es pre).2.1
theorem Tb.cons {d n : Nat} {col : Int} {es : List En} {r0 : BR} {pre : List EL} {y : EL} {r : List En} (h : Tb d n col es r0 pre) (hc : F6 d n es pre = y.1 :: r) (hx : y.1.col = col) (hb : Bp y.1.l = .dash) :
  ∃ m acc, Jd d n es pre = (m + 1, y.1 :: r, acc) /\ 4 * Dw (y.1 :: r) <= m /\ m + 1 + acc.length <= n /\ Gd (y.1 :: r) /\ (AQ m (d + 1) y.1 r).bind (fun t rest => Bn m col d rest (acc ++ [t])) = r0 := by
 obtain ⟨h1, h2, h3, h4⟩ := h
 unfold F6 at hc
 generalize Jd d n es pre = z at hc h1 h2 h3 h4 |-
 obtain ⟨m, l, acc⟩ := z
 have hc : l = y.1 :: r := hc
 subst hc
 dsimp only at h1 h2 h3 h4
 cases m with
 | zero => omega
 | succ m =>
  refine ⟨m, acc, rfl, by omega, h3, h4, ?_⟩
  rw [<- h1, Bn]
  simp only [hx, hb, true_and, and_self, if_true]
theorem Tb.next {d n : Nat} {col : Int} {es : List En} {r0 : BR} {pre : List EL} {y : EL} {r rest : List En} {m : Nat} {acc : List Tr} {t : Tr} (hs : Jd d n es pre = (m + 1, y.1 :: r, acc)) (hf : 4 * Dw (y.1 :: r) <= m) (hl : m + 1 + acc.length <= n) (hg : Gd (y.1 :: r))
  (hv : (AQ m (d + 1) y.1 r).bind (fun t rest => Bn m col d rest (acc ++ [t])) = r0) (hi : AQ m (d + 1) y.1 r = .ok t rest) : Jd d n es (pre ++ [y]) = (m, rest, acc ++ [t]) /\ Tb d n col es r0 (pre ++ [y]) := by
 have hs2 : Jd d n es (pre ++ [y]) = (m, rest, acc ++ [t]) := by
  rw [MH, hs]; unfold OO; show Ma d (m + 1) (y.1 :: r) acc = _; rw [I9, hi]
 have hsu := (suffix m).2.2.1 _ _ _ _ _ hi
 have hmu := DN hsu
 rw [AA] at hf
 refine ⟨hs2, ?_, ?_, ?_, ?_⟩
 ·rw [hs2]; rw [hi] at hv; exact hv
 ·rw [hs2]; dsimp only; omega
 ·rw [hs2]; simp; omega
 ·rw [hs2]; exact hg.tail.suffix hsu
theorem Tb.fin {d n : Nat} {col : Int} {es : List En} {r0 : BR} {pre : List EL} (h : Tb d n col es r0 pre) (hF : ∀ x r, F6 d n es pre = x :: r -> ¬ (x.col = col /\ Bp x.l = .dash)) :
  r0 = match Li col (F6 d n es pre) with
   | none => .ok (BA (Jd d n es pre).2.2) (F6 d n es pre)
   | some (no, e) => .bad no e := by
 obtain ⟨h1, h2, h3, h4⟩ := h
 unfold F6 at hF |-
 generalize Jd d n es pre = z at hF h1 h2 |-
 obtain ⟨m, l, acc⟩ := z
 dsimp only at hF h1 h2 |-
 rw [<- h1]
 cases m with
 | zero => omega
 | succ m =>
  cases l with
  | nil => rw [Bn]; rfl
  | cons x r =>
   rw [Bn]
   (try simp only)
   rw [if_neg (hF x r rfl)]
   have hE : Li col (x :: r) = if x.col < col then none else if col < x.col then some (x.no, 92) else some (x.no, 93) := rfl
   rw [hE]
   unfold CR
   by_cases h5 : x.col < col
   ·rw [if_pos h5, if_pos h5]
   ·rw [if_neg h5, if_neg h5]
    by_cases h6 : col < x.col
    ·rw [if_pos h6, if_pos h6]
    ·rw [if_neg h6, if_neg h6]
theorem KS.turnC {N T B m : Nat} {C : Nat -> Prop} {K : Nat -> Prop} {c0 c1 c2 c3 c4 c5 v : Value} {tvs : List Value} {trs : List Tr} {Wb X Y : World} (h : KS N T B K c0 c1 c2 c3 c4 c5 v tvs trs Wb X) (ht : Af C m X Y) (hT : ¬ C T) (hB : ∀ k, C k -> k < B) : KS N T B K c0 c1 c2 c3 c4 c5 v tvs trs Y Y :=
 ⟨Ag.refl _ _ _ _, ht.heap h.tb hT rfl, ⟨h.own.1, by
  rcases h.own.2 with h0 | ⟨g, cap, cur, hv, hb, hg, hr⟩
  ·exact .inl h0
  ·exact .inr ⟨g, cap, cur, hv, hb, ht.heap hg (fun hc => by have := hB g hc; omega) rfl, hr⟩⟩, Ef.imp (fun t tv h0 => As (B4.of_turn ht (fun k hk hO => by have := hO.1; have := hB k hk; omega)) t tv h0) _ _ h.tr⟩
theorem Af.lessC {C C' : Nat -> Prop} {B : Nat} {X Y : World} (h : Af C B X Y) (hc : ∀ k, C k -> C' k) : Af C' B X Y := ⟨h.os, h.tape, h.output, h.size, fun k o hk hn ho => h.block k o hk (fun e => hn (hc k e)) ho, h.kinds⟩
def KQ (N k : Nat) : Prop := k = N + 1 + 1 + 1 + 1 + 1 \/ k = N + 1 + 1 + 1 + 1 + 1 + 1 \/ k = N + 1 + 1 + 1 + 1 + 1 + 1 + 1
def KT (N k : Nat) : Prop := N <= k /\ k < N + 8 /\ k ≠ N + 1 + 1 + 1 + 1
theorem Ag.weak {p : Obj -> Bool} {K K' : Nat -> Prop} {n n' : Nat} {X Y : World} (h : Ag p K n X Y) (hn : n' <= n) (hk : ∀ k, K' k -> K k) : Ag p K' n' X Y := ⟨h.os, h.tape, h.output, h.size, fun k o ho hc => h.block k o ho (by rcases hc with hc | hc | hc; exact .inl (by omega); exact .inr (.inl (hk k hc)); exact .inr (.inr hc))⟩
theorem Ag.of_mod {R b : Nat} {X Y : World} {K : Nat -> Prop} {es : List En} (h : AB R b X Y) (hr : CE X R b es) (hb : ∃ o, X.heap[b]? = some o /\ o.isCells = true) (hKR : ¬ K R) (hKb : ¬ K b) : Ag Av K 0 X Y :=
 ⟨h.os, h.tape, h.output, h.size, fun k o hk hc => by
  by_cases e : k = R \/ k = b
  ·rcases hc with hc | hc | hc
   ·omega
   ·rcases e with rfl | rfl
    ·exact absurd hc hKR
    ·exact absurd hc hKb
   ·rcases e with rfl | rfl
    ·obtain ⟨A, c, _, h2, _⟩ := hr.rf
     rw [h2] at hk; injection hk with hk; subst hk; cases hc
    ·obtain ⟨o', h2, h3⟩ := hb
     rw [h2] at hk; injection hk with hk; subst hk
     rw [Av, h3] at hc; cases hc
  ·exact h.block k o hk e (.inl (Gl hk))⟩
theorem AB.keeps {R b N : Nat} {p : Obj -> Bool} {K : Nat -> Prop} {w X Y : World} (h : AB R b w X) (hk : Ag p K N X Y) (hN : w.heap.size = N) : AB R b w Y :=
 ⟨hk.os.trans h.os, hk.tape.trans h.tape, hk.output.trans h.output, Nat.le_trans h.size hk.size, fun k o ho hc hi => by
  have hlt := (Gl ho)
  exact hk.heap (h.block k o ho hc hi) (.inl (by omega)), fun k c e fz ho => by
  have hlt := (Gl ho)
  obtain ⟨c', fz', h2⟩ := h.kinds k c e fz ho
  exact ⟨c', fz', hk.heap h2 (.inl (by omega))⟩⟩
def zT : Array Value := #[.int .i64 0, .string ⟨#[]⟩, .int .i64 0, .int .i64 0, .string ⟨#[]⟩, .slice none 0 0, .slice none 0 0]
structure SQ (w : World) (N R b d n : Nat) (col : Int) (es : List En) (r0 : BR) (pre : List EL) (W : World) : Prop where
 gs : Tb d n col es r0 pre
 sz : N + 8 <= W.heap.size
 md : AB R b w W
 rd : CE W R b (F6 d n es pre)
 b0 : Boxed W N 55 (.pointer (some ⟨R, 0, none⟩))
 b1 : Boxed W (N + 1) 3 (.int .i64 d)
 rt : W.heap[N + 1 + 1]? = some (.cells zT 30)
 re : Boxed W (N + 1 + 1 + 1) 51 .nilIface
 ks : ∃ vk tvs, KS N (N + 1 + 1 + 1 + 1) (N + 8) (KT N) (.int .i64 1) (.string ⟨#[]⟩) (.int .i64 0) (.int .i64 0) (.string ⟨#[]⟩) (.slice none 0 0) vk tvs (Jd d n es pre).2.2 W W
def SX (w : World) (N R b : Nat) (r0 : BR) (co : Code) (_ : List EL) (W : World) : Prop := co = .ret /\ ∃ no er tv c0 c1 c2 c3 c4 c5 c6, Hid (r0 = .bad no er) /\ tv = .agg #[c0, c1, c2, c3, c4, c5, c6] /\ Mg tv /\ W.heap[N + 1 + 1]? = some (.cells #[c0, c1, c2, c3, c4, c5, c6] 30) /\ Boxed W (N + 1 + 1 + 1) 51 (Ci no er) /\ (∃ es, CE W R b es) /\ AB R b w W
theorem CE.turnF {R b m : Nat} {es : List En} {X Y : World} (h : CE X R b es) (ht : Af (fun _ => False) m X Y) (hm : R < m) : CE Y R b es :=
 h.belowR (Af.below ht (Bq _ _) (fun _ hc => hc.elim) (by omega) (by have := h.rlt; omega))
theorem SQ.turn {w X Y : World} {N R b d n m : Nat} {col : Int} {es : List En} {r0 : BR} {pre : List EL} (h : SQ w N R b d n col es r0 pre X) (hR : R < m) (hw : w.heap.size <= m) (ht : Af (fun _ => False) m X Y) : SQ w N R b d n col es r0 pre Y := by
 obtain ⟨vk, tvs, hk⟩ := h.ks
 exact ⟨h.gs, Nat.le_trans h.sz ht.size, Af.trans h.md ((ht.mono hw).lessC (fun _ hc => hc.elim)), h.rd.turnF ht hR, Ah h.b0 ht (fun f => f), Ah h.b1 ht (fun f => f), ht.heap h.rt (fun f => f) rfl, Ah h.re ht (fun f => f), vk, tvs, hk.turnC ht (fun f => f) (fun _ hc => hc.elim)⟩
theorem SX.turn {w X Y : World} {N R b m : Nat} {r0 : BR} {co : Code} {pre : List EL} (h : SX w N R b r0 co pre X) (hR : R < m) (hw : w.heap.size <= m) (ht : Af (fun _ => False) m X Y) : SX w N R b r0 co pre Y := by
 obtain ⟨h1, no, er, tv, c0, c1, c2, c3, c4, c5, c6, h2, h3, h4, h5, h6, ⟨es, h7⟩, h8⟩ := h
 exact ⟨h1, no, er, tv, c0, c1, c2, c3, c4, c5, c6, h2, h3, h4, ht.heap h5 (fun f => f) rfl, Ah h6 ht (fun f => f), ⟨es, h7.turnF ht hR⟩, Af.trans h8 ((ht.mono hw).lessC (fun _ hc => hc.elim))⟩
theorem Pz {X : World} {N : Nat} {c0 c1 c2 c3 c4 c5 c6 ev : Value} (hrt : X.heap[N + 1 + 1]? = some (.cells zT 30)) (hre : Boxed X (N + 1 + 1 + 1) 51 .nilIface) (Z : World)
  (hZ : Z = (((((((X.setCell ⟨N + 1 + 1, 0, none⟩ c0).setCell ⟨N + 1 + 1, 1, none⟩ c1).setCell ⟨N + 1 + 1, 2, none⟩ c2).setCell ⟨N + 1 + 1, 3, none⟩ c3).setCell ⟨N + 1 + 1, 4, none⟩ c4).setCell ⟨N + 1 + 1, 5, none⟩ c5).setCell ⟨N + 1 + 1, 6, none⟩ c6).setCell ⟨N + 1 + 1 + 1, 0, none⟩ ev) :
  Z.heap[N + 1 + 1]? = some (.cells #[c0, c1, c2, c3, c4, c5, c6] 30) /\ Boxed Z (N + 1 + 1 + 1) 51 ev /\ Af (fun k => k = N + 1 + 1 \/ k = N + 1 + 1 + 1) N X Z /\ Ag Av (KQ N) 0 X Z := by
 subst hZ
 have h7 := CW hrt c0 c1 c2 c3 c4 c5 c6
 have ht := CX (C := fun k => k = N + 1 + 1) (B := N) X c0 c1 c2 c3 c4 c5 c6 rfl
 have kk : ∀ (Y : World) (a : Addr) (u : Value), (a.block = N + 1 + 1 \/ a.block = N + 1 + 1 + 1) -> Ag Av (KQ N) 0 Y (Y.setCell a u) := fun Y a u ha => Ag.setCell Y a u (Nat.zero_le _) (fun hk => by unfold KQ at hk; omega)
 exact ⟨(Bh _ ⟨N + 1 + 1 + 1, 0, none⟩ ev _ (by simp)).trans h7, (Ah hre ht (by omega)).set _, (ht.lessC (fun k hk => .inl hk)).trans (Af.setCell _ _ _ (.inr rfl)),
  (((((((kk X ⟨N + 1 + 1, 0, none⟩ c0 (.inl rfl)).trans (kk _ ⟨N + 1 + 1, 1, none⟩ c1 (.inl rfl))).trans (kk _ ⟨N + 1 + 1, 2, none⟩ c2 (.inl rfl))).trans (kk _ ⟨N + 1 + 1, 3, none⟩ c3 (.inl rfl))).trans (kk _ ⟨N + 1 + 1, 4, none⟩ c4 (.inl rfl))).trans (kk _ ⟨N + 1 + 1, 5, none⟩ c5 (.inl rfl))).trans (kk _ ⟨N + 1 + 1, 6, none⟩ c6 (.inl rfl))).trans (kk _ ⟨N + 1 + 1 + 1, 0, none⟩ ev (.inr rfl))⟩
def Sb (w : World) (os : List Obj) : World := os.foldl World.alloc w
theorem Gk : ∀ (os : List Obj) (w : World), Below w.heap.size w (Sb w os)
 | [], w => Bq _ w
 | o :: r, w => ((Bq _ w).alloc Nr o).trans ((Gk r (w.alloc o)).mono (by simp))
theorem Ky : ∀ (os : List Obj) (w : World), (Sb w os).heap.size = w.heap.size + os.length
 | [], w => rfl
 | o :: r, w => by have := Ky r (w.alloc o); rw [World.size_alloc] at this; simp only [List.length_cons]; show (Sb (w.alloc o) r).heap.size = _; omega
theorem JX : ∀ (os : List Obj) (w : World) (i : Nat) (o : Obj), os[i]? = some o -> (Sb w os).heap[w.heap.size + i]? = some o
 | [], w, i, o, h => by simp at h
 | a :: r, w, 0, o, h => by
  simp at h; subst h
  exact Aa (Wn w a) (Gk r (w.alloc a))
 | a :: r, w, i + 1, o, h => by
  have := JX r (w.alloc a) i o (by simpa using h)
  rw [World.size_alloc] at this
  rw [show w.heap.size + (i + 1) = w.heap.size + 1 + i by omega]
  exact this
structure SW (w : World) (R N d : Nat) (col kk : Int) (dk : Bool) (W : World) : Prop where
 sz : W.heap.size = N + 8
 bl : Below w.heap.size w W
 b0 : Boxed W N 55 (.pointer (some ⟨R, 0, none⟩))
 b1 : Boxed W (N + 1) 3 (.int .i64 d)
 rt : W.heap[N + 1 + 1]? = some (.cells zT 30)
 re : Boxed W (N + 1 + 1 + 1) 51 .nilIface
 tb : W.heap[N + 1 + 1 + 1 + 1]? = some (.cells #[.int .i64 kk, .string ⟨#[]⟩, .int .i64 0, .int .i64 0, .string ⟨#[]⟩, .slice none 0 0, .slice none 0 0] 30)
 rj : RJ R (N + 1 + 1 + 1 + 1 + 1) (N + 1 + 1 + 1 + 1 + 1 + 1) (N + 1 + 1 + 1 + 1 + 1 + 1 + 1) col dk W
theorem KN {w : World} {R N d : Nat} (hN : w.heap.size = N) (col kk : Int) (dk : Bool) (W : World)
  (hW : W = Sb w [.cells #[.pointer (some ⟨R, 0, none⟩)] 55, .cells #[.int .i64 d] 3, .cells zT 30, .cells #[.nilIface] 51,
   .cells #[.int .i64 kk, .string ⟨#[]⟩, .int .i64 0, .int .i64 0, .string ⟨#[]⟩, .slice none 0 0, .slice none 0 0] 30, .cells #[.pointer (some ⟨R, 0, none⟩)] 55, .cells #[.int .i64 col] 3, .cells #[NU dk] 147]) : SW w R N d col kk dk W := by
 subst hN
 have H := fun i o h => (show W.heap[w.heap.size + i]? = some o by rw [hW]; exact JX _ w i o h)
 exact ⟨by rw [hW, Ky]; rfl, by rw [hW]; exact Gk _ w, H 0 _ rfl, H 1 _ rfl, H 2 _ rfl, H 3 _ rfl, H 4 _ rfl, H 5 _ rfl, H 6 _ rfl, H 7 _ rfl⟩
theorem Vm {R b n : Nat} (hC : ∀ k, k <= n -> F8 R b k) (hn1 : n <= 1000000) (m : Nat) (hm : m <= n) (col : Int) (d : Nat) (es : List En) (w : World) (h : CE w R b es) (hg : Gd es) (hd : d <= 24) (hf : 4 * Dw es + 1 <= m) :
  Calls Tryz.prog 68 #[.pointer (some ⟨R, 0, none⟩), .int .i64 col, .int .i64 d] w (BZ R b (Bn m col d es []) w) := by
 obtain ⟨r0, hr⟩ : ∃ r0, Bn m col d es [] = r0 := ⟨_, rfl⟩
 rw [hr]
 have HS0 := hid (show Tb d m col es r0 [] from ⟨hr, hf, by simp [Jd], hg⟩)
 clear hr hf hg
 have hlt := h.rlt
 have hbR := h.lt
 obtain ⟨N, hN⟩ : ∃ N, w.heap.size = N := ⟨_, rfl⟩
 refine (callsIn_wide (n := 0)).1 ?_
 refine callsIn_of_wp_marks Tryz.func68 rfl trivial ?_ rfl
 refine wpIn_wide.2 ?_
 simp only [Tryz.ntmps68, List.size_toArray, List.length_cons, List.length_nil, Nat.reduceAdd, Nat.reduceSub, Array.replicate_succ, Array.replicate_zero, List.push_toArray, List.append_toArray, List.nil_append, List.cons_append]
 go_wp2_with fail
 refine (MN R col true _).mono ?_
 rintro e w1 ⟨rfl, hw1⟩
 have hL := KN hN col 1 true w1 hw1
 have hsz : (((((w.alloc (.cells #[.pointer (some ⟨R, 0, none⟩)] 55)).alloc (.cells #[.int .i64 d] 3)).alloc (.cells zT 30)).alloc (.cells #[.nilIface] 51)).alloc (.cells #[.int .i64 1, .string ⟨#[]⟩, .int .i64 0, .int .i64 0, .string ⟨#[]⟩, .slice none 0 0, .slice none 0 0] 30)).heap.size = N + 1 + 1 + 1 + 1 + 1 := by simp [hN]
 unfold zT at hsz
 rw [hsz]
 clear hw1 hsz
 have HL := hid hL
 clear hL
 have HR := hid h
 have hNw : w.heap.size <= N := by omega
 go_wp2
 refine (wpIn_wide (n := 0)).1 ?_
 refine EW (gf := 134) (lb := #[.pointer (some ⟨N + 1 + 1 + 1 + 1 + 1, 0, none⟩), .pointer (some ⟨N + 1 + 1 + 1 + 1 + 1 + 1, 0, none⟩), .pointer (some ⟨N + 1 + 1 + 1 + 1 + 1 + 1 + 1, 0, none⟩)]) rfl (enters_of Tryz.func134 (by kernel_rfl) rfl)
  (JW R b (N + 1 + 1 + 1 + 1 + 1) (N + 1 + 1 + 1 + 1 + 1 + 1) (N + 1 + 1 + 1 + 1 + 1 + 1 + 1) (KQ N) col true (F6 d m es) (.inl rfl) (.inr (.inl rfl)) (.inr (.inr rfl)) (fun pre y r h => Q3 d m es pre y r h))
  (fun Y hY _ => HL.out.rj.below hY) (fun _ hk => hk.elim) (fun hk => by have := HL.out.sz; unfold KQ at hk; omega) (fun hk => by have := HL.out.sz; unfold KQ at hk; omega) (Nat.zero_le _) (fun _ => rfl)
  (SQ w N R b d m col es r0) (SX w N R b r0) (fun s X Y hf _ => hf) (fun s X Y hs ht => hs.turn (by have := HL.out.sz; omega) (by have := HL.out.sz; omega) ht) (fun c s X Y hs ht => hs.turn (by have := HL.out.sz; omega) (by have := HL.out.sz; omega) ht) (fun _ _ hb _ => hb) (fun s X hs => hs.rd)
  ⟨HS0.out, by have := HL.out.sz; omega, AB.of_below HL.out.bl, h.below HL.out.bl, HL.out.b0, HL.out.b1, HL.out.rt, HL.out.re, .slice none 0 0, [], ⟨Ag.refl _ _ _ _, HL.out.tb, ⟨rfl, .inl ⟨rfl, rfl⟩⟩, trivial⟩⟩ ?round ?done ?stop
 case round =>
  rintro l pre ⟨⟨no, xc, l2⟩, A, ca⟩ W0 W hl hI0 hturn hadm
  have hsz := HL.out.sz
  have hI := hI0.turn (by omega) (by omega) hturn
  obtain ⟨r, hcr, hcol, hbg, hen⟩ := hadm
  obtain ⟨ms, acc, hst, hfu, hle, hgd, hv⟩ := hI.gs.cons hcr hcol hbg
  dsimp only at hcol hbg hen hcr
  replace hcol := hcol.symm
  subst hcol
  have hxl := hid hen
  clear hI0 hturn
  unfold Rq
  gi_wp2
  refine ⟨Ag.alloc _ _, fun Wb ht _ _ => ?_⟩
  have hsW := hI.sz
  have hI1 := (hI.turn (m := N + 8) (by omega) (by omega) (Af.alloc W (.cells #[.int .i64 no, .int .i64 col, .slice A l2.length ca] 107))).turn (m := N + 8) (by omega) (by omega) ht
  have hX := ht.heap (Wn W (.cells #[.int .i64 no, .int .i64 col, .slice A l2.length ca] 107)) (fun f => f) rfl
  have hen1 := (hen.below ((Bq (R + 1) W).alloc (by omega) (.cells #[.int .i64 no, .int .i64 col, .slice A l2.length ca] 107))).below (Af.below ht (Bq (R + 1) _) (fun _ hc => hc.elim) (by omega) (by simp; omega))
  have hrd1 := hI1.rd
  rw [hcr] at hrd1
  have hIT := Sl hC ms (by omega) ⟨no, col, l2⟩ r A ca (d + 1) Wb hrd1 hen1 hgd (by omega) hfu
  rw [show ((d + 1 : Nat) : Int) = (d : Int) + 1 from rfl] at hIT
  have hbc : ∃ o, Wb.heap[b]? = some o /\ o.isCells = true := by obtain ⟨o, c, A', ca', hd'⟩ := hrd1.head; exact BD hd'.c0
  obtain ⟨vk0, tvs, hk1⟩ := hI1.ks
  rw [hst] at hk1
  dsimp only at hk1
  obtain ⟨A7, cap7, rfl, hob⟩ := Et hk1.own
  have hlen7 : tvs.length <= 1000000 := by have := Ef.len _ _ hk1.tr; omega
  have hszb := hI1.sz
  have HI := hid hI1
  have HK := hid hk1
  have HOB := hid hob
  have HB := hid hbc
  have HRD := hid hrd1
  have HNX := hid (fun t rest hi => Tb.next (r0 := r0) (col := col) (d := d) (n := m) (es := es) (pre := pre) (y := (⟨no, col, l2⟩, (A, ca))) hst hfu hle hgd hv (t := t) (rest := rest) hi)
  have HV := hid hv
  dsimp only at hIT
  obtain ⟨L2, hL2⟩ : ∃ z, l2.length = z := ⟨_, rfl⟩
  rw [hL2] at hIT hX |-
  obtain ⟨rr, hrr⟩ : ∃ z, AQ ms (d + 1) ⟨no, col, l2⟩ r = z := ⟨_, rfl⟩
  rw [hrr] at hIT
  have HRR := hid hrr
  have b0 := hI1.b0.cell
  have b1 := hI1.b1.cell
  obtain ⟨x0, x1, x2, _⟩ := Az hX
  clear hI ht hX hen hen1 hrd1 hI1 hk1 hob hbc hv hst hfu hle hgd hcr hxl hL2 hrr hbg hsz hsW h HR HL HS0 hC
  gi_wp2_with fail
  refine (CallsIn.inRound l (callsIn_wide.2 hIT)).mono ?_
  intro e w5 hP
  clear hIT x0 x1 x2 b0 b1
  cases rr with
  | out => exact hP.elim
  | bad n2 e2 =>
   obtain ⟨tv, rfl, ⟨tk, tnm, xk, xn, xs, KA0, kl, kc, TA, tl, tc, rfl⟩, ⟨es5, hr5⟩, hm5⟩ := hP
   have hr0 : r0 = .bad n2 e2 := by have := HV.out; rw [HRR.out] at this; exact this.symm
   have hbK : Below w5.heap.size w5 (w5.alloc (.cells #[.int .i64 tk, .string tnm, .int .i64 xk, .int .i64 xn, .string xs, .slice KA0 kl kc, .slice TA tl tc] 30)) := (Bq _ w5).alloc Nr _
   have htb := Aa (hm5.heap HK.out.tb (by omega) (by omega)) hbK
   have hrt := Aa (hm5.heap HI.out.rt (by omega) (by omega)) hbK
   have hre : Boxed (w5.alloc (.cells #[.int .i64 tk, .string tnm, .int .i64 xk, .int .i64 xn, .string xs, .slice KA0 kl kc, .slice TA tl tc] 30)) (N + 1 + 1 + 1) 51 .nilIface := Aa (hm5.heap HI.out.re (by omega) (by omega)) hbK
   have HM5 := hid (Ai (HI.out.md.trans hm5) (Ai hr5 (Ai hr0 (Ai hrt hre))))
   have HKP := hid ((Ag.of_mod (K := KQ N) hm5 HRD.out HB.out (fun hk => by unfold KQ at hk; omega) (fun hk => by unfold KQ at hk; omega)).trans (Ag.of_below hbK))
   obtain ⟨t0, t1, t2, t3, t4, t5, t6, _⟩ := Ay htb
   unfold zT at hrt
   obtain ⟨_, _, _, _, _, _, _, f0, f1, f2, f3, f4, f5, f6⟩ := Ay hrt
   have hr3 := hre.cell
   have hf3 := hre.frozen
   have hsz5 := hbK.size
   have hsz5' := hm5.size
   clear hm5 hr5 hr0 htb hrt hre hbK
   unfold Ci
   gi_wp2
   obtain ⟨hZ1, hZ2, hZ3, hZ4⟩ := Pz (N := N) (c0 := .int .i64 1) (c1 := .string ⟨#[]⟩) (c2 := .int .i64 0) (c3 := .int .i64 0) (c4 := .string ⟨#[]⟩) (c5 := .slice none 0 0) (c6 := .slice A7 tvs.length cap7) (ev := Ci n2 e2) HM5.out.2.2.2.1 HM5.out.2.2.2.2 _ rfl
   have hbK : Below w5.heap.size w5 (w5.alloc (.cells #[.int .i64 tk, .string tnm, .int .i64 xk, .int .i64 xn, .string xs, .slice KA0 kl kc, .slice TA tl tc] 30)) := (Bq _ w5).alloc Nr _
   exact ⟨HKP.out.trans hZ4, rfl, n2, e2, _, _, _, _, _, _, _, _, hid HM5.out.2.2.1, rfl, ⟨_, _, _, _, _, _, _, _, _, _, _, rfl⟩, hZ1, hZ2, ⟨es5, (HM5.out.2.1.below hbK).news hZ3 (by omega) (fun k hk => by omega)⟩, (HM5.out.1.below hbK).news (hZ3.mono (by omega)) (fun k hk => by omega)⟩
  | ok t rest =>
   obtain ⟨tv, rfl, htv, hr5, hm5⟩ := hP
   obtain ⟨tk, tnm, xk, xn, xs, KA0, kl, kc, TA, tl, tc, rfl⟩ := htv.form
   have hnx := HNX.out t rest HRR.out
   have hbK : Below w5.heap.size w5 (w5.alloc (.cells #[.int .i64 tk, .string tnm, .int .i64 xk, .int .i64 xn, .string xs, .slice KA0 kl kc, .slice TA tl tc] 30)) := (Bq _ w5).alloc Nr _
   have hszb5 := hm5.size
   have hks5 := ((HK.out.turnC (C := fun k => k = R \/ k = b) hm5 (by omega) (fun k hk => by omega)).below hbK).base
   have htk : Ao (w5.alloc (.cells #[.int .i64 tk, .string tnm, .int .i64 xk, .int .i64 xn, .string xs, .slice KA0 kl kc, .slice TA tl tc] 30)) (fun q => N + 8 <= q /\ q < w5.heap.size /\ J6 (N + 8) (.slice A7 tvs.length cap7) q) t (.agg #[.int .i64 tk, .string tnm, .int .i64 xk, .int .i64 xn, .string xs, .slice KA0 kl kc, .slice TA tl tc]) := (Au (fun q hq hq2 => ⟨by omega, hq, by omega, fun e => by have := (HOB.out q e).2.1; omega⟩) t _ htv).below hbK
   have hkid := Wn w5 (.cells #[.int .i64 tk, .string tnm, .int .i64 xk, .int .i64 xn, .string xs, .slice KA0 kl kc, .slice TA tl tc] 30)
   have HR5 := hid (Ai (hr5.below hbK) (Ai ((HI.out.md.trans hm5).below hbK) hnx))
   have HBX := hid (Ai (Ac (Aa (hm5.heap HI.out.b0 (by omega) (by omega)) (Bq _ _)) hbK) (Ai (Aa (hm5.heap HI.out.b1 (by omega) (by omega)) hbK) (Ai (Aa (hm5.heap HI.out.rt (by omega) (by omega)) hbK) (Aa (hm5.heap HI.out.re (by omega) (by omega)) hbK))))
   have HKP := hid ((Ag.of_mod (K := KQ N) hm5 HRD.out HB.out (fun hk => by unfold KQ at hk; omega) (fun hk => by unfold KQ at hk; omega)).trans (Ag.of_below hbK))
   obtain ⟨n7, hn7⟩ : ∃ n, tvs.length = n := ⟨_, rfl⟩
   rw [hn7] at hks5 htk hlen7
   have HKS := hid hks5
   have HT := hid htk
   have hTd : (w5.alloc (.cells #[.int .i64 tk, .string tnm, .int .i64 xk, .int .i64 xn, .string xs, .slice KA0 kl kc, .slice TA tl tc] 30)).cell? ⟨N + 1 + 1 + 1 + 1, 6, none⟩ = some (.slice A7 n7 cap7) := by simp [World.cell?, HKS.out.tb]
   have hkc : (w5.alloc (.cells #[.int .i64 tk, .string tnm, .int .i64 xk, .int .i64 xn, .string xs, .slice KA0 kl kc, .slice TA tl tc] 30)).cell? ⟨w5.heap.size, 0, none⟩ = some (.int .i64 tk) /\ (w5.alloc (.cells #[.int .i64 tk, .string tnm, .int .i64 xk, .int .i64 xn, .string xs, .slice KA0 kl kc, .slice TA tl tc] 30)).cell? ⟨w5.heap.size, 1, none⟩ = some (.string tnm) /\ (w5.alloc (.cells #[.int .i64 tk, .string tnm, .int .i64 xk, .int .i64 xn, .string xs, .slice KA0 kl kc, .slice TA tl tc] 30)).cell? ⟨w5.heap.size, 2, none⟩ = some (.int .i64 xk) /\ (w5.alloc (.cells #[.int .i64 tk, .string tnm, .int .i64 xk, .int .i64 xn, .string xs, .slice KA0 kl kc, .slice TA tl tc] 30)).cell? ⟨w5.heap.size, 3, none⟩ = some (.int .i64 xn) /\ (w5.alloc (.cells #[.int .i64 tk, .string tnm, .int .i64 xk, .int .i64 xn, .string xs, .slice KA0 kl kc, .slice TA tl tc] 30)).cell? ⟨w5.heap.size, 4, none⟩ = some (.string xs) /\ (w5.alloc (.cells #[.int .i64 tk, .string tnm, .int .i64 xk, .int .i64 xn, .string xs, .slice KA0 kl kc, .slice TA tl tc] 30)).cell? ⟨w5.heap.size, 5, none⟩ = some (.slice KA0 kl kc) /\ (w5.alloc (.cells #[.int .i64 tk, .string tnm, .int .i64 xk, .int .i64 xn, .string xs, .slice KA0 kl kc, .slice TA tl tc] 30)).cell? ⟨w5.heap.size, 6, none⟩ = some (.slice TA tl tc) := by obtain ⟨k0, k1, k2, k3, k4, k5, k6, _⟩ := Ay hkid; exact ⟨k0, k1, k2, k3, k4, k5, k6⟩
   obtain ⟨i0, hi0, hz0, hz1, hz2⟩ := Gt
   have hi2 : (n7 : Int) < (n7 : Int) + 1 := by omega
   have hsX : w5.heap.size + 1 <= (w5.alloc (.cells #[.int .i64 tk, .string tnm, .int .i64 xk, .int .i64 xn, .string xs, .slice KA0 kl kc, .slice TA tl tc] 30)).heap.size := by simp
   have hN8 : N + 8 <= w5.heap.size := Nat.le_trans hszb hszb5
   have hne5 : (Value.slice A7 n7 cap7).ownBlock ≠ some w5.heap.size := fun e => by have := (HOB.out _ (by rw [hn7]; exact e)).2.1; omega
   clear hr5 hm5 htv hks5 htk hkid hbK hnx HNX HB HRD HOB HV HRR hszb5 hn1
   gi_wp2
   refine Dl (S := fun L w' => (L.getD 5 true = false -> w'.cell? ⟨N + 1 + 1 + 1 + 1, 6, none⟩ = some (.slice A7 n7 cap7)) /\ (L.getD 7 true = false -> w'.cell? ⟨w5.heap.size, 0, none⟩ = some (.int .i64 tk) /\ w'.cell? ⟨w5.heap.size, 1, none⟩ = some (.string tnm) /\ w'.cell? ⟨w5.heap.size, 2, none⟩ = some (.int .i64 xk) /\ w'.cell? ⟨w5.heap.size, 3, none⟩ = some (.int .i64 xn) /\ w'.cell? ⟨w5.heap.size, 4, none⟩ = some (.string xs) /\ w'.cell? ⟨w5.heap.size, 5, none⟩ = some (.slice KA0 kl kc) /\ w'.cell? ⟨w5.heap.size, 6, none⟩ = some (.slice TA tl tc))) (by kernel_rfl) (by kernel_rfl) (by rintro ⟨a, w, h⟩; exact h) ⟨fun _ => by first | (simp; done) | simpa using hTd, fun _ => by first | (simp; done) | simpa using hkc⟩ (fun hS => ?_)
   refine wL 0 1 hS (fun hS => ?_); try simp only [gS]
   refine wM 1 5 ?_ ?_ hS (fun hS => ?_)
   rotate_left
   ·intro L w' hL hm; (try dsimp only at hL); have hc := hL.1 hm; go_simp; (try with_reducible rfl)
   try simp only [gS]
   refine wM 2 7 ?_ ?_ hS (fun hS => ?_)
   rotate_left
   ·intro L w' hL hm; (try dsimp only at hL); obtain ⟨hc0, hc1, hc2, hc3, hc4, hc5, hc6⟩ := hL.2 hm; go_simp; (try with_reducible rfl)
   try simp only [gS]
   refine wL 3 6 hS (fun hS => ?_); try simp only [gS]
   refine Aj (rs := [4]) (by kernel_rfl) (by simp) (Ad.cons rfl (by rfl) (fun K hK => ?_) Ad.nil)
   go_simp
   have hHX : Below (w5.alloc (.cells #[.int .i64 tk, .string tnm, .int .i64 xk, .int .i64 xn, .string xs, .slice KA0 kl kc, .slice TA tl tc] 30)).heap.size (w5.alloc (.cells #[.int .i64 tk, .string tnm, .int .i64 xk, .int .i64 xn, .string xs, .slice KA0 kl kc, .slice TA tl tc] 30)) ((w5.alloc (.cells #[.int .i64 tk, .string tnm, .int .i64 xk, .int .i64 xn, .string xs, .slice KA0 kl kc, .slice TA tl tc] 30)).alloc (.cells #[.int .i64 0, .string ⟨#[]⟩, .int .i64 0, .int .i64 0, .string ⟨#[]⟩, .slice none 0 0, .slice none 0 0] 30)).drew := ((Bq _ _).alloc Nr _).drew
   have hZX : ((w5.alloc (.cells #[.int .i64 tk, .string tnm, .int .i64 xk, .int .i64 xn, .string xs, .slice KA0 kl kc, .slice TA tl tc] 30)).alloc (.cells #[.int .i64 0, .string ⟨#[]⟩, .int .i64 0, .int .i64 0, .string ⟨#[]⟩, .slice none 0 0, .slice none 0 0] 30)).drew.heap[w5.heap.size + 1]? = some (.cells #[.int .i64 0, .string ⟨#[]⟩, .int .i64 0, .int .i64 0, .string ⟨#[]⟩, .slice none 0 0, .slice none 0 0] 30) := by have := Wn (w5.alloc (.cells #[.int .i64 tk, .string tnm, .int .i64 xk, .int .i64 xn, .string xs, .slice KA0 kl kc, .slice TA tl tc] 30)) (.cells #[.int .i64 0, .string ⟨#[]⟩, .int .i64 0, .int .i64 0, .string ⟨#[]⟩, .slice none 0 0, .slice none 0 0] 30); rw [World.size_alloc] at this; exact this
   have HKX := hid (HKS.out.below hHX)
   have HTX := hid (HT.out.below hHX)
   obtain ⟨w3, hw3⟩ : ∃ z, ((w5.alloc (.cells #[.int .i64 tk, .string tnm, .int .i64 xk, .int .i64 xn, .string xs, .slice KA0 kl kc, .slice TA tl tc] 30)).alloc (.cells #[.int .i64 0, .string ⟨#[]⟩, .int .i64 0, .int .i64 0, .string ⟨#[]⟩, .slice none 0 0, .slice none 0 0] 30)).drew = z := ⟨_, rfl⟩
   have hz3 : w3.heap.size = w5.heap.size + 1 + 1 := by rw [<- hw3]; simp
   have hS3 := Ab hTd hHX
   have HX := hid hHX
   refine hK.out _ _ ⟨fun _ => hS3, fun _ => ⟨Ab hkc.1 hHX, Ab hkc.2.1 hHX, Ab hkc.2.2.1 hHX, Ab hkc.2.2.2.1 hHX, Ab hkc.2.2.2.2.1 hHX, Ab hkc.2.2.2.2.2.1 hHX, Ab hkc.2.2.2.2.2.2 hHX⟩⟩ (fun hS => ?_)
   clear hK K hHX hS3
   try simp only [gS]
   rw [hw3] at hS HKX HTX hZX HX |-
   clear hw3
   have hBX : N + 8 <= w3.heap.size := by omega
   refine Aj (rs := [5]) (by kernel_rfl) (by simp) (Ad.cons rfl (by rfl) (fun K hK => ?_) Ad.nil)
   refine wp_append_lies _ (.tmp 32) (.tmp 35) 28 (by rfl) (N + 8) 30 i0 (.agg #[.int .i64 0, .string ⟨#[]⟩, .int .i64 0, .int .i64 0, .string ⟨#[]⟩, .slice none 0 0, .slice none 0 0]) 7 104 (by kernel_rfl) hi0 hz0 hz1 hz2 (by rfl) (by decide) (.slice A7 n7 cap7) n7 (tvs.flatMap Bf) (by rfl) (hn7 ▸ HKX.out.own) ⟨w5.heap.size + 1, 0, none⟩ 1 1 FJ (by rfl) (by rfl) (World.news_of_block hZX) IK (by decide) (by unfold maxLen; omega) (by omega) hBX _ rfl ?_
   intro g gcap w6 hown6 hgrow6 hat6 hlt6
   have hkz := HKX.out.grow (by omega) (by omega) (fun k hk => hk.2.1) hBX rfl (by rw [hn7]; exact hown6) hgrow6 hat6
   have htz : Ao w6 (J6 (N + 8) (.slice (some ⟨g, 0, none⟩) (tvs.length + 1) gcap)) t (.agg #[.int .i64 tk, .string tnm, .int .i64 xk, .int .i64 xn, .string xs, .slice KA0 kl kc, .slice TA tl tc]) := by
    refine Au (S := fun q => N + 8 <= q /\ q < w5.heap.size /\ J6 (N + 8) (.slice A7 n7 cap7) q) (fun q _ hb => ⟨hb.1, fun e => ?_⟩) _ _ (As ⟨hgrow6.size, fun q o x hb hc => (hgrow6.cell_far ⟨q, o, none⟩ (AS hc) (fun e => hb.2.2.2 e.symm)).trans hc⟩ _ _ HTX.out)
    simp [Value.ownBlock] at e
    subst e
    rcases hat6 with e | e
    ·exact hb.2.2.2 e
    ·have h1 := hb.2.1; omega
   have HKZ := hid hkz
   have HTZ := hid htz
   obtain ⟨⟨z0, z1, z2, z3, z4, z5, z6⟩, zf, tc6, tf6, hBg, hgl⟩ := hkz.cells hn7
   have zf0 := zf (n7 * 7)
   have zf1 := zf (n7 * 7 + 1)
   have zf2 := zf (n7 * 7 + 2)
   have zf3 := zf (n7 * 7 + 3)
   have zf4 := zf (n7 * 7 + 4)
   have zf5 := zf (n7 * 7 + 5)
   have zf6 := zf (n7 * 7 + 6)
   have hgT : g ≠ N + 1 + 1 + 1 + 1 := by omega
   have hfar : ∀ o x, w3.cell? ⟨w5.heap.size, o, none⟩ = some x -> w6.cell? ⟨w5.heap.size, o, none⟩ = some x := fun o x hc => (hgrow6.cell_far ⟨w5.heap.size, o, none⟩ (AS hc) (fun e => hne5 e.symm)).trans hc
   have hk6 := Ai (hfar _ _ (Ab hkc.1 HX.out)) (Ai (hfar _ _ (Ab hkc.2.1 HX.out)) (Ai (hfar _ _ (Ab hkc.2.2.1 HX.out)) (Ai (hfar _ _ (Ab hkc.2.2.2.1 HX.out)) (Ai (hfar _ _ (Ab hkc.2.2.2.2.1 HX.out)) (Ai (hfar _ _ (Ab hkc.2.2.2.2.2.1 HX.out)) (hfar _ _ (Ab hkc.2.2.2.2.2.2 HX.out)))))))
   have HK6 := hid (fun (v : Value) => (show ∀ o x, w6.cell? ⟨w5.heap.size, o, none⟩ = some x -> (w6.setCell ⟨N + 1 + 1 + 1 + 1, 6, none⟩ v).cell? ⟨w5.heap.size, o, none⟩ = some x from fun o x hc => (World.cell?_setCell_far _ ⟨N + 1 + 1 + 1 + 1, 6, none⟩ ⟨w5.heap.size, o, none⟩ v (by show N + 1 + 1 + 1 + 1 ≠ w5.heap.size; omega)).trans hc))
   have HKC := hid hk6
   refine hK.out _ _ ⟨fun hc => absurd hc (by decide), fun _ => hk6⟩ (fun hS => ?_)
   clear hK K hown6 hgrow6 hat6 zf hkz htz hfar hk6
   try simp only [gS]
   refine Du (i := 6) (v := ?_) 7 rfl (by kernel_rfl) (by kernel_rfl) (fun L w => by simp only [getD_set_ne true (show 6 ≠ 5 by decide), getD_set_ne true (show 6 ≠ 7 by decide)]) (by kernel_rfl) (by kernel_rfl) (by kernel_rfl) (fun _ _ _ h => h) (by rfl) ?_ hS (fun hS => ?_)
   rotate_left
   ·intro L w' hL hm; (try dsimp only at hL); go_simp; (try rw [if_pos hi2]); (try with_reducible rfl)
   try simp only [gS]
   refine wL 8 9 hS (fun hS => ?_); try simp only [gS]
   refine Aj (rs := [7, 9]) (by kernel_rfl) (by simp) (Ad.cons rfl (by rfl) (fun K hK => ?_) (Ad.cons rfl (by rfl) (fun K hK => ?_) Ad.nil))
   ·go_simp
    refine hK.out _ _ ⟨fun hc => absurd hc (by decide), fun hc => absurd hc (by decide)⟩ (fun hS => ?_)
    clear hK K
    try simp only [gS]
    refine Aj (rs := [9]) (by kernel_rfl) (by simp) (Ad.cons rfl (by rfl) (fun K hK => ?_) Ad.nil)
    go_simp
    refine hK.out _ _ ⟨fun hc => absurd hc (by decide), fun hc => absurd hc (by decide)⟩ (fun hS => ?_)
    clear hK K
    try simp only [gS]
    refine AU (by kernel_rfl) ?_ _
    have hfin := HKZ.out.put hn7 (by omega) (by omega) (fun k hk => hk.2.1) (fun hk => hk.2.2 rfl) HTZ.out _ rfl
    rw [hn7] at hfin
    have hrd := HR5.out.1.belowR (hfin.kp.below (Bq (R + 1) _) (by omega) (by have := HR5.out.1.rlt; omega))
    have hmd := HR5.out.2.1.keeps hfin.kp hN
    have hcur : F6 d m es (pre ++ [(⟨no, col, l2⟩, (A, ca))]) = rest := by unfold F6; rw [HR5.out.2.2.1]
    exact ⟨HKP.out.trans (hfin.kp.weak (Nat.zero_le _) (fun k hk => by unfold KQ at hk; unfold KT; omega)), ⟨HR5.out.2.2.2, Nat.le_trans (by omega) hfin.kp.size, hmd, by rw [hcur]; exact hrd, Am HBX.out.1 hfin.kp (.inr (by unfold KT; omega)), Am HBX.out.2.1 hfin.kp (.inr (by unfold KT; omega)), hfin.kp.heap HBX.out.2.2.1 (.inr (.inl (by unfold KT; omega))), Am HBX.out.2.2.2 hfin.kp (.inr (by unfold KT; omega)), _, _, by rw [HR5.out.2.2.1]; exact hfin.base⟩⟩
   ·go_simp
    refine hK.out _ _ ⟨fun hc => absurd hc (by decide), fun _ => ⟨HK6.out _ _ _ HKC.out.1, HK6.out _ _ _ HKC.out.2.1, HK6.out _ _ _ HKC.out.2.2.1, HK6.out _ _ _ HKC.out.2.2.2.1, HK6.out _ _ _ HKC.out.2.2.2.2.1, HK6.out _ _ _ HKC.out.2.2.2.2.2.1, HK6.out _ _ _ HKC.out.2.2.2.2.2.2⟩⟩ (fun hS => ?_)
    clear hK K
    try simp only [gS]
    refine Aj (rs := [7]) (by kernel_rfl) (by simp) (Ad.cons rfl (by rfl) (fun K hK => ?_) Ad.nil)
    go_simp
    refine hK.out _ _ ⟨fun hc => absurd hc (by decide), fun hc => absurd hc (by decide)⟩ (fun hS => ?_)
    clear hK K
    try simp only [gS]
    refine AU (by kernel_rfl) ?_ _
    rw [Hn _ g (N + 1 + 1 + 1 + 1) (n7 * 7) hgT]
    have hfin := HKZ.out.put hn7 (by omega) (by omega) (fun k hk => hk.2.1) (fun hk => hk.2.2 rfl) HTZ.out _ rfl
    rw [hn7] at hfin
    have hrd := HR5.out.1.belowR (hfin.kp.below (Bq (R + 1) _) (by omega) (by have := HR5.out.1.rlt; omega))
    have hmd := HR5.out.2.1.keeps hfin.kp hN
    have hcur : F6 d m es (pre ++ [(⟨no, col, l2⟩, (A, ca))]) = rest := by unfold F6; rw [HR5.out.2.2.1]
    exact ⟨HKP.out.trans (hfin.kp.weak (Nat.zero_le _) (fun k hk => by unfold KQ at hk; unfold KT; omega)), ⟨HR5.out.2.2.2, Nat.le_trans (by omega) hfin.kp.size, hmd, by rw [hcur]; exact hrd, Am HBX.out.1 hfin.kp (.inr (by unfold KT; omega)), Am HBX.out.2.1 hfin.kp (.inr (by unfold KT; omega)), hfin.kp.heap HBX.out.2.2.1 (.inr (.inl (by unfold KT; omega))), Am HBX.out.2.2.2 hfin.kp (.inr (by unfold KT; omega)), _, _, by rw [HR5.out.2.2.1]; exact hfin.base⟩⟩
 case done =>
  rintro D xs W hD hI hF hK
  have hsz := HL.out.sz
  have hfin := hI.gs.fin hF
  obtain ⟨vk0, tvs, hk1⟩ := hI.ks
  obtain ⟨A7, cap7, rfl, _⟩ := Et hk1.own
  have htr := hk1.tree (ks := []) (Cy.nil W) (Gx.nil _)
  have hE := fun wx hx => MC R b (F6 d m es xs) col wx hx
  have hrd := hI.rd
  have hmd := hI.md
  have hrt := hI.rt
  have hre := hI.re
  obtain ⟨cu, hcu⟩ : ∃ z, F6 d m es xs = z := ⟨_, rfl⟩
  obtain ⟨ac, hac⟩ : ∃ z, (Jd d m es xs).2.2 = z := ⟨_, rfl⟩
  obtain ⟨q, hq⟩ : ∃ z, Li col cu = z := ⟨_, rfl⟩
  rw [hcu, hac, hq] at hfin
  rw [hcu] at hE hrd
  rw [hq] at hE
  rw [hac] at htr
  obtain ⟨n7, hn7⟩ : ∃ n, tvs.length = n := ⟨_, rfl⟩
  have htb := hk1.tb
  rw [hn7] at htr htb
  have HH := hid (Ai hrd (Ai hmd (Ai hrt (Ai hre (Ai htr hfin)))))
  have hSS := hid (fun (X : World) (hT : Af (fun k => k = N + 1 + 1 \/ k = N + 1 + 1 + 1) N W X) => Ai (Ah hI.b0 hT (by omega)).cell (by obtain ⟨t0, t1, t2, t3, t4, t5, t6, _⟩ := Ay (hT.heap htb (by omega) rfl); exact Ai t0 (Ai t1 (Ai t2 (Ai t3 (Ai t4 (Ai t5 t6)))))))
  have HK := hid hK
  clear hfin hk1 htr hrd hmd hrt hre htb hI hF hcu hac hq hn7 h HR HS0 hC
  have hd4 : Af (fun k => k = N + 1 + 1 \/ k = N + 1 + 1 + 1) N W W.drew := Af.of_below (Bq _ _).drew
  cases q with
  | none =>
   unfold Lp at hE
   dsimp only at hE
   go_wp2
   refine wp_region_noPanic ?_
   refine wp_region_held_drew (S := (fun w' => w'.cell? ⟨N, 0, none⟩ = some (.pointer (some ⟨R, 0, none⟩)) /\ w'.cell? ⟨N + 1 + 1 + 1 + 1, 0, none⟩ = some (.int .i64 1) /\ w'.cell? ⟨N + 1 + 1 + 1 + 1, 1, none⟩ = some (.string ⟨#[]⟩) /\ w'.cell? ⟨N + 1 + 1 + 1 + 1, 2, none⟩ = some (.int .i64 0) /\ w'.cell? ⟨N + 1 + 1 + 1 + 1, 3, none⟩ = some (.int .i64 0) /\ w'.cell? ⟨N + 1 + 1 + 1 + 1, 4, none⟩ = some (.string ⟨#[]⟩) /\ w'.cell? ⟨N + 1 + 1 + 1 + 1, 5, none⟩ = some (.slice none 0 0) /\ w'.cell? ⟨N + 1 + 1 + 1 + 1, 6, none⟩ = some (.slice A7 n7 cap7))) (by kernel_rfl) (hSS.out _ hd4) (fun hHeld => ?_)
   refine wI 0 hHeld ?_; try simp only [gS]
   refine wI 1 hHeld ?_; try simp only [gS]
   refine wI 2 hHeld ?_; try simp only [gS]
   refine wB 3 rfl (fun K hK => ?_)
   go_simp
   refine (hE _ (HH.out.1.below (Bq _ _).drew)).mono ?_
   rintro e w5 ⟨rfl, hb5⟩
   have hT5 := hd4.trans (Af.of_below hb5)
   have hb5' := ((Bq W.heap.size W).drew).trans hb5
   have hrt5 := Aa HH.out.2.2.1 hb5'
   have hre5 : Boxed w5 (N + 1 + 1 + 1) 51 .nilIface := Aa HH.out.2.2.2.1 hb5'
   unfold zT at hrt5
   refine hK.out _ _ (hSS.out _ hT5) (fun hHeld2 => ?_)
   clear hK K hHeld
   have hHeld := hHeld2; clear hHeld2
   try simp only [gS]
   refine wB 4 rfl (fun K hK => ?_)
   refine Bk (by rfl) _ _ _ (by rfl) (N + 1 + 1) #[.int .i64 1, .string ⟨#[]⟩, .int .i64 0, .int .i64 0, .string ⟨#[]⟩, .slice none 0 0, .slice A7 n7 cap7] (by rfl) (by rfl) _ _ hrt5 (by kernel_rfl) (by rfl) (by simp [Value.oneCell']) ?_
   refine hK.out _ _ (hSS.out _ (hT5.trans (Af.setRow _ _ _ (.inl rfl)))) (fun hHeld2 => ?_)
   clear hK K hHeld
   have hHeld := hHeld2; clear hHeld2
   try simp only [gS]
   have hre6 : Boxed (w5.setRow (N + 1 + 1) #[.int .i64 1, .string ⟨#[]⟩, .int .i64 0, .int .i64 0, .string ⟨#[]⟩, .slice none 0 0, .slice A7 n7 cap7]) (N + 1 + 1 + 1) 51 .nilIface := (setRow_other _ _ _ _ (by omega)).trans hre5
   have hr6c := hre6.cell
   have hr6f := hre6.frozen
   refine wB 5 rfl (fun K hK => ?_)
   go_simp
   refine hK.out _ _ (hSS.out _ (hT5.trans ((Af.setRow _ _ _ (.inl rfl)).trans (Af.setCell _ _ _ (.inr rfl))))) (fun hHeld2 => ?_)
   clear hK K hHeld
   have hHeld := hHeld2; clear hHeld2
   try simp only [gS]
   refine wpAnyH_done (by kernel_rfl) ?_ _
   refine NoPanic.normal ?_
   have hZt := (Bh (w5.setRow (N + 1 + 1) #[.int .i64 1, .string ⟨#[]⟩, .int .i64 0, .int .i64 0, .string ⟨#[]⟩, .slice none 0 0, .slice A7 n7 cap7]) ⟨N + 1 + 1 + 1, 0, none⟩ (.nilIface) (N + 1 + 1) (by simp)).trans (setRow_heap _ _ _ #[.int .i64 1, .string ⟨#[]⟩, .int .i64 0, .int .i64 0, .string ⟨#[]⟩, .slice none 0 0, .slice A7 n7 cap7] _ _ hrt5)
   have hZe := hre6.set (.nilIface)
   have hKZ := (Bh (w5.setRow (N + 1 + 1) #[.int .i64 1, .string ⟨#[]⟩, .int .i64 0, .int .i64 0, .string ⟨#[]⟩, .slice none 0 0, .slice A7 n7 cap7]) ⟨N + 1 + 1 + 1, 0, none⟩ (.nilIface) D (by show D ≠ N + 1 + 1 + 1; omega)).trans ((setRow_other w5 (N + 1 + 1) D #[.int .i64 1, .string ⟨#[]⟩, .int .i64 0, .int .i64 0, .string ⟨#[]⟩, .slice none 0 0, .slice A7 n7 cap7] (by omega)).trans (Aa HK.out hb5'))
   have hTZ := hT5.trans ((Af.setRow w5 (N + 1 + 1) #[.int .i64 1, .string ⟨#[]⟩, .int .i64 0, .int .i64 0, .string ⟨#[]⟩, .slice none 0 0, .slice A7 n7 cap7] (.inl rfl)).trans (Af.setCell _ ⟨N + 1 + 1 + 1, 0, none⟩ (.nilIface) (.inr rfl)))
   have hTT := hTZ.trans (Af.putObj (.deferred none) hKZ (by omega) rfl)
   obtain ⟨Z, hZ⟩ : ∃ z, (w5.setRow (N + 1 + 1) #[.int .i64 1, .string ⟨#[]⟩, .int .i64 0, .int .i64 0, .string ⟨#[]⟩, .slice none 0 0, .slice A7 n7 cap7]).setCell ⟨N + 1 + 1 + 1, 0, none⟩ (.nilIface) = z := ⟨_, rfl⟩
   rw [hZ] at hZt hZe hKZ hTT |-
   have hZt2 : (Z.putObj D (.deferred none)).heap[N + 1 + 1]? = _ := (World.putObj_heap_other (by omega)).trans hZt
   have d1 := (Ar hZe hKZ (.deferred none)).cell
   obtain ⟨e0, e1, e2, e3, e4, e5, e6, _⟩ := Ay hZt2
   clear hHeld hb5 hT5 hb5' hrt5 hre5 hre6 hr6c hr6f hZt hZe hTZ hZ hZt2 hd4
   go_wp2
   refine ⟨by simp, .inl ⟨_, _, rfl, run_takeDeferred hKZ, ?_⟩⟩
   refine ⟨.tuple #[.agg #[.int .i64 1, .string ⟨#[]⟩, .int .i64 0, .int .i64 0, .string ⟨#[]⟩, .slice none 0 0, .slice A7 n7 cap7], .nilIface], by simp [results, Tryz.f68, go_sem, d1, e0, e1, e2, e3, e4, e5, e6], ?_⟩
   rw [show r0 = .ok (BA ac) cu from HH.out.2.2.2.2.2]
   exact ⟨_, rfl, Au (fun k _ hk => by omega) _ _ (As (B4.of_turn (S := fun k => N + 8 <= k) hTT (fun k hk hk2 => by omega)) _ _ HH.out.2.2.2.2.1), HH.out.1.news hTT (by omega) (fun k hk => by omega), HH.out.2.1.news (hTT.mono (by omega)) (fun k hk => by omega)⟩
  | some z =>
   obtain ⟨no, er⟩ := z
   unfold Lp at hE
   unfold Ci at hE
   dsimp only at hE
   go_wp2
   refine wp_region_noPanic ?_
   refine wp_region_held_drew (S := (fun w' => w'.cell? ⟨N, 0, none⟩ = some (.pointer (some ⟨R, 0, none⟩)) /\ w'.cell? ⟨N + 1 + 1 + 1 + 1, 0, none⟩ = some (.int .i64 1) /\ w'.cell? ⟨N + 1 + 1 + 1 + 1, 1, none⟩ = some (.string ⟨#[]⟩) /\ w'.cell? ⟨N + 1 + 1 + 1 + 1, 2, none⟩ = some (.int .i64 0) /\ w'.cell? ⟨N + 1 + 1 + 1 + 1, 3, none⟩ = some (.int .i64 0) /\ w'.cell? ⟨N + 1 + 1 + 1 + 1, 4, none⟩ = some (.string ⟨#[]⟩) /\ w'.cell? ⟨N + 1 + 1 + 1 + 1, 5, none⟩ = some (.slice none 0 0) /\ w'.cell? ⟨N + 1 + 1 + 1 + 1, 6, none⟩ = some (.slice A7 n7 cap7))) (by kernel_rfl) (hSS.out _ hd4) (fun hHeld => ?_)
   refine wI 0 hHeld ?_; try simp only [gS]
   refine wI 1 hHeld ?_; try simp only [gS]
   refine wI 2 hHeld ?_; try simp only [gS]
   refine wB 3 rfl (fun K hK => ?_)
   go_simp
   refine (hE _ (HH.out.1.below (Bq _ _).drew)).mono ?_
   rintro e w5 ⟨rfl, hb5⟩
   have hT5 := hd4.trans (Af.of_below hb5)
   have hb5' := ((Bq W.heap.size W).drew).trans hb5
   have hrt5 := Aa HH.out.2.2.1 hb5'
   have hre5 : Boxed w5 (N + 1 + 1 + 1) 51 .nilIface := Aa HH.out.2.2.2.1 hb5'
   unfold zT at hrt5
   refine hK.out _ _ (hSS.out _ hT5) (fun hHeld2 => ?_)
   clear hK K hHeld
   have hHeld := hHeld2; clear hHeld2
   try simp only [gS]
   refine wB 4 rfl (fun K hK => ?_)
   refine Bk (by rfl) _ _ _ (by rfl) (N + 1 + 1) #[.int .i64 1, .string ⟨#[]⟩, .int .i64 0, .int .i64 0, .string ⟨#[]⟩, .slice none 0 0, .slice A7 n7 cap7] (by rfl) (by rfl) _ _ hrt5 (by kernel_rfl) (by rfl) (by simp [Value.oneCell']) ?_
   refine hK.out _ _ (hSS.out _ (hT5.trans (Af.setRow _ _ _ (.inl rfl)))) (fun hHeld2 => ?_)
   clear hK K hHeld
   have hHeld := hHeld2; clear hHeld2
   try simp only [gS]
   have hre6 : Boxed (w5.setRow (N + 1 + 1) #[.int .i64 1, .string ⟨#[]⟩, .int .i64 0, .int .i64 0, .string ⟨#[]⟩, .slice none 0 0, .slice A7 n7 cap7]) (N + 1 + 1 + 1) 51 .nilIface := (setRow_other _ _ _ _ (by omega)).trans hre5
   have hr6c := hre6.cell
   have hr6f := hre6.frozen
   refine wB 5 rfl (fun K hK => ?_)
   go_simp
   refine hK.out _ _ (hSS.out _ (hT5.trans ((Af.setRow _ _ _ (.inl rfl)).trans (Af.setCell _ _ _ (.inr rfl))))) (fun hHeld2 => ?_)
   clear hK K hHeld
   have hHeld := hHeld2; clear hHeld2
   try simp only [gS]
   refine wpAnyH_done (by kernel_rfl) ?_ _
   refine NoPanic.normal ?_
   have hZt := (Bh (w5.setRow (N + 1 + 1) #[.int .i64 1, .string ⟨#[]⟩, .int .i64 0, .int .i64 0, .string ⟨#[]⟩, .slice none 0 0, .slice A7 n7 cap7]) ⟨N + 1 + 1 + 1, 0, none⟩ (.iface 105 (.agg #[.int .i64 no, .int .i64 er])) (N + 1 + 1) (by simp)).trans (setRow_heap _ _ _ #[.int .i64 1, .string ⟨#[]⟩, .int .i64 0, .int .i64 0, .string ⟨#[]⟩, .slice none 0 0, .slice A7 n7 cap7] _ _ hrt5)
   have hZe := hre6.set (.iface 105 (.agg #[.int .i64 no, .int .i64 er]))
   have hKZ := (Bh (w5.setRow (N + 1 + 1) #[.int .i64 1, .string ⟨#[]⟩, .int .i64 0, .int .i64 0, .string ⟨#[]⟩, .slice none 0 0, .slice A7 n7 cap7]) ⟨N + 1 + 1 + 1, 0, none⟩ (.iface 105 (.agg #[.int .i64 no, .int .i64 er])) D (by show D ≠ N + 1 + 1 + 1; omega)).trans ((setRow_other w5 (N + 1 + 1) D #[.int .i64 1, .string ⟨#[]⟩, .int .i64 0, .int .i64 0, .string ⟨#[]⟩, .slice none 0 0, .slice A7 n7 cap7] (by omega)).trans (Aa HK.out hb5'))
   have hTZ := hT5.trans ((Af.setRow w5 (N + 1 + 1) #[.int .i64 1, .string ⟨#[]⟩, .int .i64 0, .int .i64 0, .string ⟨#[]⟩, .slice none 0 0, .slice A7 n7 cap7] (.inl rfl)).trans (Af.setCell _ ⟨N + 1 + 1 + 1, 0, none⟩ (.iface 105 (.agg #[.int .i64 no, .int .i64 er])) (.inr rfl)))
   have hTT := hTZ.trans (Af.putObj (.deferred none) hKZ (by omega) rfl)
   obtain ⟨Z, hZ⟩ : ∃ z, (w5.setRow (N + 1 + 1) #[.int .i64 1, .string ⟨#[]⟩, .int .i64 0, .int .i64 0, .string ⟨#[]⟩, .slice none 0 0, .slice A7 n7 cap7]).setCell ⟨N + 1 + 1 + 1, 0, none⟩ (.iface 105 (.agg #[.int .i64 no, .int .i64 er])) = z := ⟨_, rfl⟩
   rw [hZ] at hZt hZe hKZ hTT |-
   have hZt2 : (Z.putObj D (.deferred none)).heap[N + 1 + 1]? = _ := (World.putObj_heap_other (by omega)).trans hZt
   have d1 := (Ar hZe hKZ (.deferred none)).cell
   obtain ⟨e0, e1, e2, e3, e4, e5, e6, _⟩ := Ay hZt2
   clear hHeld hb5 hT5 hb5' hrt5 hre5 hre6 hr6c hr6f hZt hZe hTZ hZ hZt2 hd4
   go_wp2
   refine ⟨by simp, .inl ⟨_, _, rfl, run_takeDeferred hKZ, ?_⟩⟩
   refine ⟨.tuple #[.agg #[.int .i64 1, .string ⟨#[]⟩, .int .i64 0, .int .i64 0, .string ⟨#[]⟩, .slice none 0 0, .slice A7 n7 cap7], .iface 105 (.agg #[.int .i64 no, .int .i64 er])], by simp [results, Tryz.f68, go_sem, d1, e0, e1, e2, e3, e4, e5, e6], ?_⟩
   rw [show r0 = .bad no er from HH.out.2.2.2.2.2]
   exact ⟨_, rfl, ⟨_, _, _, _, _, _, _, _, _, _, _, rfl⟩, ⟨cu, HH.out.1.news hTT (by omega) (fun k hk => by omega)⟩, HH.out.2.1.news (hTT.mono (by omega)) (fun k hk => by omega)⟩
 case stop =>
  rintro D co pre W hD ⟨rfl, no, er, tv, c0, c1, c2, c3, c4, c5, c6, hr0, rfl, hform, hrt, hre, ⟨es5, hes⟩, hmd⟩ hK
  refine wpIn_wide.2 ?_
  have hsz := HL.out.sz
  have hne : ∀ k, k < D -> (W.putObj D (.deferred none)).heap[k]? = W.heap[k]? := fun k hk => World.putObj_heap_other (by omega)
  have hrt2 := (hne (N + 1 + 1) (by omega)).trans hrt
  have d1 := (Ar hre hK (.deferred none)).cell
  obtain ⟨e0, e1, e2, e3, e4, e5, e6, _⟩ := Ay hrt2
  have HE := hid hes
  have HM := hid hmd
  have HF := hid hform
  have HR0 := hid hr0.out
  clear hform hr0 hrt hrt2 hre hes hmd hne
  go_wp2
  refine ⟨by simp, .inl ⟨_, _, rfl, run_takeDeferred hK, ?_⟩⟩
  refine ⟨.tuple #[.agg #[c0, c1, c2, c3, c4, c5, c6], Ci no er], by simp [results, Tryz.f68, go_sem, d1, e0, e1, e2, e3, e4, e5, e6], ?_⟩
  rw [HR0.out]
  exact ⟨_, rfl, HF.out, ⟨es5, HE.out.turnF (m := D) (Af.putObj _ hK Nr rfl) (by omega)⟩, Af.trans HM.out (Af.putObj _ hK (by omega) rfl)⟩
end
end Go.Proofs.YtaogfdffgdglkaaGreatDoor
