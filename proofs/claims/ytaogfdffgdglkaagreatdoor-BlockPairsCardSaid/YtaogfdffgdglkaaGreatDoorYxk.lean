/- What is proved: a part of the walk of the program and of its plain laws; no condition beside those that each theorem names. -/
import Derived.Test.YtaogfdffgdglkaaGreatDoorYa
import Derived.Test.YtaogfdffgdglkaaGreatDoorYxj
namespace Go.Proofs.YtaogfdffgdglkaaGreatDoor
open Go Go.RowKit Go.Lib
set_option linter.unusedSimpArgs false
set_option linter.unusedVariables false
section
set_option maxRecDepth 100000
set_option maxHeartbeats 8000000
attribute [local go_sem] Oper.semAt_some CA B0
def FT (n d : Nat) (x : En) (r : List En) : BR := if (Co x.l).2 ≠ 0 then .bad x.no (Co x.l).2 else Bl n d x r
theorem GS {n d : Nat} {x : En} {r rest : List En} {t : Tr} (h : FT n d x r = .ok t rest) : rest <:+ r := by
 unfold FT at h
 split at h
 ·cases h
 ·exact (suffix n).2.2.2.2.2.1 _ _ _ _ _ h
def Jr (d : Nat) : Nat -> List En -> List Sc -> List Tr -> Nat × List En × List Sc × List Tr
 | n + 1, x :: r, ks, ts => match FT n (d + 1) x r with
  | .ok t rest => (n, rest, ks ++ [(Co x.l).1], ts ++ [t])
  | _ => (n, r, ks, ts)
 | _, _, ks, ts => (0, [], ks, ts)
theorem Hw (d n : Nat) (x : En) (r : List En) (ks : List Sc) (ts : List Tr) : Jr d (n + 1) (x :: r) ks ts = match FT n (d + 1) x r with | .ok t rest => (n, rest, ks ++ [(Co x.l).1], ts ++ [t]) | _ => (n, r, ks, ts) := rfl
def P0 (d : Nat) (s : Nat × List En × List Sc × List Tr) : Nat × List En × List Sc × List Tr := Jr d s.1 s.2.1 s.2.2.1 s.2.2.2
def Gm (d n : Nat) (es : List En) (pre : List EL) : Nat × List En × List Sc × List Tr := pre.foldl (fun s _ => P0 d s) (n, es, [], [])
theorem Nb (d n : Nat) (es : List En) (pre : List EL) (y : EL) : Gm d n es (pre ++ [y]) = P0 d (Gm d n es pre) := by
 unfold Gm; rw [List.foldl_append]; rfl
def ED (d n : Nat) (es : List En) (pre : List EL) : List En := (Gm d n es pre).2.1
theorem Qf (d n : Nat) (es : List En) (pre : List EL) (y : EL) (r : List En) (h : ED d n es pre = y.1 :: r) : (ED d n es (pre ++ [y])).length <= r.length := by
 unfold ED at h |-
 rw [Nb]
 unfold P0
 generalize Gm d n es pre = z at h |-
 obtain ⟨m, l, ks, ts⟩ := z
 have h : l = y.1 :: r := h
 subst h
 show (Jr d m (y.1 :: r) ks ts).2.1.length <= r.length
 cases m with
 | zero => simp [Jr]
 | succ m =>
  rw [Hw]
  cases hi : FT m (d + 1) y.1 r with
  | ok t rest => exact (GS hi).sublist.length_le
  | bad no e => exact Nat.le_refl _
  | out => exact Nat.le_refl _
structure Tv (d n : Nat) (col : Int) (es : List En) (r0 : BR) (pre : List EL) : Prop where
 v : AD (Gm d n es pre).1 col d (Gm d n es pre).2.1 (Gm d n es pre).2.2.1 (Gm d n es pre).2.2.2 = r0
 f : 4 * Dw (Gm d n es pre).2.1 + 1 <= (Gm d n es pre).1
 nn : (Gm d n es pre).1 + (Gm d n es pre).2.2.2.length <= n
 kk : (Gm d n es pre).2.2.1.length = (Gm d n es pre).2.2.2.length
 g : Gd (Gm d n es pre).2.1
theorem Tv.cons {d n : Nat} {col : Int} {es : List En} {r0 : BR} {pre : List EL} {y : EL} {r : List En} (h : Tv d n col es r0 pre) (hc : ED d n es pre = y.1 :: r) (hx : y.1.col = col) (hb : Bp y.1.l = .key) :
  ∃ m ks ts, Gm d n es pre = (m + 1, y.1 :: r, ks, ts) /\ 4 * Dw (y.1 :: r) <= m /\ m + 1 + ts.length <= n /\ ks.length = ts.length /\ Gd (y.1 :: r) /\ (FT m (d + 1) y.1 r).bind (fun t rest => AD m col d rest (ks ++ [(Co y.1.l).1]) (ts ++ [t])) = r0 := by
 obtain ⟨h1, h2, h3, h5, h4⟩ := h
 unfold ED at hc
 generalize Gm d n es pre = z at hc h1 h2 h3 h4 h5 |-
 obtain ⟨m, l, ks, ts⟩ := z
 have hc : l = y.1 :: r := hc
 subst hc
 dsimp only at h1 h2 h3 h4 h5
 cases m with
 | zero => omega
 | succ m =>
  refine ⟨m, ks, ts, rfl, by omega, h3, h5, h4, ?_⟩
  rw [<- h1, AD]
  simp only [hx, hb, true_and, and_self, if_true]
  unfold FT
  split <;> rfl
theorem Tv.next {d n : Nat} {col : Int} {es : List En} {r0 : BR} {pre : List EL} {y : EL} {r rest : List En} {m : Nat} {ks : List Sc} {ts : List Tr} {t : Tr} (hs : Gm d n es pre = (m + 1, y.1 :: r, ks, ts)) (hf : 4 * Dw (y.1 :: r) <= m) (hl : m + 1 + ts.length <= n) (hk : ks.length = ts.length) (hg : Gd (y.1 :: r))
  (hv : (FT m (d + 1) y.1 r).bind (fun t rest => AD m col d rest (ks ++ [(Co y.1.l).1]) (ts ++ [t])) = r0) (hi : FT m (d + 1) y.1 r = .ok t rest) : Gm d n es (pre ++ [y]) = (m, rest, ks ++ [(Co y.1.l).1], ts ++ [t]) /\ Tv d n col es r0 (pre ++ [y]) := by
 have hs2 : Gm d n es (pre ++ [y]) = (m, rest, ks ++ [(Co y.1.l).1], ts ++ [t]) := by
  rw [Nb, hs]; unfold P0; show Jr d (m + 1) (y.1 :: r) ks ts = _; rw [Hw, hi]
 have hsu := GS hi
 have hmu := DN hsu
 rw [AA] at hf
 refine ⟨hs2, ?_, ?_, ?_, ?_, ?_⟩
 ·rw [hs2]; rw [hi] at hv; exact hv
 ·rw [hs2]; dsimp only; omega
 ·rw [hs2]; simp; omega
 ·rw [hs2]; simp [hk]
 ·rw [hs2]; exact hg.tail.suffix hsu
theorem Tv.fin {d n : Nat} {col : Int} {es : List En} {r0 : BR} {pre : List EL} (h : Tv d n col es r0 pre) (hF : ∀ x r, ED d n es pre = x :: r -> ¬ (x.col = col /\ Bp x.l = .key)) :
  r0 = match Li col (ED d n es pre) with
   | none => .ok (BJ (Gm d n es pre).2.2.1 (Gm d n es pre).2.2.2) (ED d n es pre)
   | some (no, e) => .bad no e := by
 obtain ⟨h1, h2, h3, h5, h4⟩ := h
 unfold ED at hF |-
 generalize Gm d n es pre = z at hF h1 h2 |-
 obtain ⟨m, l, ks, ts⟩ := z
 dsimp only at hF h1 h2 |-
 rw [<- h1]
 cases m with
 | zero => omega
 | succ m =>
  cases l with
  | nil => rw [AD]; rfl
  | cons x r =>
   rw [AD]
   (try simp only)
   rw [if_neg (hF x r rfl)]
   have hE : Li col (x :: r) = if x.col < col then none else if col < x.col then some (x.no, 92) else some (x.no, 93) := rfl
   rw [hE]
   unfold CR
   by_cases h5 : x.col < col
   ·rw [if_pos h5, if_pos h5]
   ·rw [if_neg h5, if_neg h5]
    by_cases h6 : col < x.col
    ·rw [if_pos h6, if_pos h6]
    ·rw [if_neg h6, if_neg h6]
theorem KD.turnC {N T B m : Nat} {C : Nat -> Prop} {K : Nat -> Prop} {c0 c1 c2 c3 c4 hk hc kv cv : Value} {keys : List Sc} {tvs : List Value} {trs : List Tr} {Wb X Y : World} (h : KD N T B K c0 c1 c2 c3 c4 hk hc kv cv keys tvs trs Wb X) (ht : Af C m X Y) (hT : ¬ C T) (hB : ∀ k, C k -> k < B) : KD N T B K c0 c1 c2 c3 c4 hk hc kv cv keys tvs trs Y Y := by
 obtain ⟨_, _, _, ok⟩ := AE h.ko
 obtain ⟨_, _, _, oc⟩ := AE h.co
 refine ⟨Ag.refl _ _ _ _, ht.heap h.tb hT rfl, C4 h.ko (fun k o hk ho => ?_), C4 h.co (fun k o hk ho => ?_), Ef.imp (fun t tv h0 => As (B4.of_turn ht (fun k hk hO => by have := hO.1; have := hB k hk; omega)) t tv h0) _ _ h.tr⟩
 ·obtain ⟨h1, _, cur, h3⟩ := ok k hk
  rw [h3] at ho; injection ho with ho; subst ho
  exact ht.heap h3 (fun e => by have := hB k e; omega) rfl
 ·obtain ⟨h1, _, cur, h3⟩ := oc k hk
  rw [h3] at ho; injection ho with ho; subst ho
  exact ht.heap h3 (fun e => by have := hB k e; omega) rfl
structure VU (w : World) (N R b d n : Nat) (col : Int) (es : List En) (r0 : BR) (pre : List EL) (W : World) : Prop where
 gs : Tv d n col es r0 pre
 sz : N + 8 <= W.heap.size
 md : AB R b w W
 rd : CE W R b (ED d n es pre)
 b0 : Boxed W N 55 (.pointer (some ⟨R, 0, none⟩))
 b1 : Boxed W (N + 1) 3 (.int .i64 d)
 rt : W.heap[N + 1 + 1]? = some (.cells zT 30)
 re : Boxed W (N + 1 + 1 + 1) 51 .nilIface
 ks : ∃ kv cv tvs, KD N (N + 1 + 1 + 1 + 1) (N + 8) (KT N) (.int .i64 2) (.string ⟨#[]⟩) (.int .i64 0) (.int .i64 0) (.string ⟨#[]⟩) kv cv kv cv (Gm d n es pre).2.2.1 tvs (Gm d n es pre).2.2.2 W W
theorem VU.turn {w X Y : World} {N R b d n m : Nat} {col : Int} {es : List En} {r0 : BR} {pre : List EL} (h : VU w N R b d n col es r0 pre X) (hR : R < m) (hw : w.heap.size <= m) (ht : Af (fun _ => False) m X Y) : VU w N R b d n col es r0 pre Y := by
 obtain ⟨kv, cv, tvs, hk⟩ := h.ks
 exact ⟨h.gs, Nat.le_trans h.sz ht.size, Af.trans h.md ((ht.mono hw).lessC (fun _ hc => hc.elim)), h.rd.turnF ht hR, Ah h.b0 ht (fun f => f), Ah h.b1 ht (fun f => f), ht.heap h.rt (fun f => f) rfl, Ah h.re ht (fun f => f), kv, cv, tvs, hk.turnC ht (fun f => f) (fun _ hc => hc.elim)⟩
theorem ES {N T B P Q : Nat} {K : Nat -> Prop} {c0 c1 c2 c3 c4 hk hc kv cv p0 p1 p2 v0 v1 v2 v3 v4 v5 v6 : Value} {keys : List Sc} {tvs : List Value} {trs : List Tr} {Wb X : World} (h : KD N T B K c0 c1 c2 c3 c4 hk hc kv cv keys tvs trs Wb X) (hP : X.heap[P]? = some (.cells #[p0, p1, p2] 26)) (hQ : X.heap[Q]? = some (.cells #[v0, v1, v2, v3, v4, v5, v6] 30)) :
  X.cell? ⟨T, 5, none⟩ = some hk /\ X.cell? ⟨T, 6, none⟩ = some hc /\ (X.cell? ⟨P, 0, none⟩ = some p0 /\ X.cell? ⟨P, 1, none⟩ = some p1 /\ X.cell? ⟨P, 2, none⟩ = some p2) ∧
   (X.cell? ⟨Q, 0, none⟩ = some v0 /\ X.cell? ⟨Q, 1, none⟩ = some v1 /\ X.cell? ⟨Q, 2, none⟩ = some v2 /\ X.cell? ⟨Q, 3, none⟩ = some v3 /\ X.cell? ⟨Q, 4, none⟩ = some v4 /\ X.cell? ⟨Q, 5, none⟩ = some v5 /\ X.cell? ⟨Q, 6, none⟩ = some v6) := by
 simp [World.cell?, h.tb, hP, hQ]
theorem TS {R b n : Nat} (hC : ∀ k, k <= n -> F8 R b k) (hn1 : n <= 1000000) (m : Nat) (hm : m <= n) (col : Int) (d : Nat) (es : List En) (w : World) (h : CE w R b es) (hg : Gd es) (hd : d <= 24) (hf : 4 * Dw es + 1 <= m) :
  Calls Tryz.prog 70 #[.pointer (some ⟨R, 0, none⟩), .int .i64 col, .int .i64 d] w (BZ R b (AD m col d es [] []) w) := by
 obtain ⟨r0, hr⟩ : ∃ r0, AD m col d es [] [] = r0 := ⟨_, rfl⟩
 rw [hr]
 have HS0 := hid (show Tv d m col es r0 [] from ⟨hr, hf, by simp [Gm], by simp [Gm], hg⟩)
 clear hr hf hg
 have hlt := h.rlt
 have hbR := h.lt
 obtain ⟨N, hN⟩ : ∃ N, w.heap.size = N := ⟨_, rfl⟩
 refine (callsIn_wide (n := 0)).1 ?_
 refine callsIn_of_wp_marks Tryz.func70 rfl trivial ?_ rfl
 refine wpIn_wide.2 ?_
 simp only [Tryz.ntmps70, List.size_toArray, List.length_cons, List.length_nil, Nat.reduceAdd, Nat.reduceSub, Array.replicate_succ, Array.replicate_zero, List.push_toArray, List.append_toArray, List.nil_append, List.cons_append]
 go_wp2_with fail
 refine (MN R col false _).mono ?_
 rintro e w1 ⟨rfl, hw1⟩
 have hL := KN hN col 2 false w1 hw1
 have hsz : (((((w.alloc (.cells #[.pointer (some ⟨R, 0, none⟩)] 55)).alloc (.cells #[.int .i64 d] 3)).alloc (.cells zT 30)).alloc (.cells #[.nilIface] 51)).alloc (.cells #[.int .i64 2, .string ⟨#[]⟩, .int .i64 0, .int .i64 0, .string ⟨#[]⟩, .slice none 0 0, .slice none 0 0] 30)).heap.size = N + 1 + 1 + 1 + 1 + 1 := by simp [hN]
 unfold zT at hsz
 rw [hsz]
 clear hw1 hsz
 have HL := hid hL
 clear hL
 have HR := hid h
 have hNw : w.heap.size <= N := by omega
 go_wp2
 refine (wpIn_wide (n := 0)).1 ?_
 refine EW (gf := 134) (lb := #[.pointer (some ⟨N + 1 + 1 + 1 + 1 + 1, 0, none⟩), .pointer (some ⟨N + 1 + 1 + 1 + 1 + 1 + 1, 0, none⟩), .pointer (some ⟨N + 1 + 1 + 1 + 1 + 1 + 1 + 1, 0, none⟩)]) rfl (enters_of Tryz.func134 (by kernel_rfl) rfl)
  (JW R b (N + 1 + 1 + 1 + 1 + 1) (N + 1 + 1 + 1 + 1 + 1 + 1) (N + 1 + 1 + 1 + 1 + 1 + 1 + 1) (KQ N) col false (ED d m es) (.inl rfl) (.inr (.inl rfl)) (.inr (.inr rfl)) (fun pre y r h => Qf d m es pre y r h))
  (fun Y hY _ => HL.out.rj.below hY) (fun _ hk => hk.elim) (fun hk => by have := HL.out.sz; unfold KQ at hk; omega) (fun hk => by have := HL.out.sz; unfold KQ at hk; omega) (Nat.zero_le _) (fun _ => rfl)
  (VU w N R b d m col es r0) (SX w N R b r0) (fun s X Y hf _ => hf) (fun s X Y hs ht => hs.turn (by have := HL.out.sz; omega) (by have := HL.out.sz; omega) ht) (fun c s X Y hs ht => hs.turn (by have := HL.out.sz; omega) (by have := HL.out.sz; omega) ht) (fun _ _ hb _ => hb) (fun s X hs => hs.rd)
  ⟨HS0.out, by have := HL.out.sz; omega, AB.of_below HL.out.bl, h.below HL.out.bl, HL.out.b0, HL.out.b1, HL.out.rt, HL.out.re, .slice none 0 0, .slice none 0 0, [], ⟨Ag.refl _ _ _ _, HL.out.tb, ⟨rfl, .inl ⟨rfl, rfl⟩⟩, ⟨rfl, .inl ⟨rfl, rfl⟩⟩, trivial⟩⟩ ?round ?done ?stop
 case round =>
  rintro l pre ⟨⟨no, xc, l2⟩, A, ca⟩ W0 W hl hI0 hturn hadm
  have hsz := HL.out.sz
  have hI := hI0.turn (by omega) (by omega) hturn
  obtain ⟨r, hcr, hcol, hbg, hen⟩ := hadm
  obtain ⟨ms, kss, acc, hst, hfu, hle, hkk, hgd, hv⟩ := hI.gs.cons hcr hcol hbg
  dsimp only at hcol hbg hen hcr
  replace hcol := hcol.symm
  subst hcol
  have hxl := hid hen
  clear hI0 hturn
  unfold Rq
  gi_wp2
  refine ⟨Ag.alloc _ _, fun Wb ht _ _ => ?_⟩
  have hsW := hI.sz
  have hI1 := (hI.turn (m := N + 8) (by omega) (by omega) (Af.alloc W (.cells #[.int .i64 no, .int .i64 col, .slice A l2.length ca] 107))).turn (m := N + 8) (by omega) (by omega) ht
  have hX := ht.heap (Wn W (.cells #[.int .i64 no, .int .i64 col, .slice A l2.length ca] 107)) (fun f => f) rfl
  have hen1 := (hen.below ((Bq (R + 1) W).alloc (by omega) (.cells #[.int .i64 no, .int .i64 col, .slice A l2.length ca] 107))).below (Af.below ht (Bq (R + 1) _) (fun _ hc => hc.elim) (by omega) (by simp; omega))
  have hrd1 := hI1.rd
  rw [hcr] at hrd1
  have hIT := R1 hC ms (by omega) ⟨no, col, l2⟩ r A ca (d + 1) Wb hrd1 hen1 hgd hbg (by omega) hfu
  rw [show ((d + 1 : Nat) : Int) = (d : Int) + 1 from rfl] at hIT
  have hbc : ∃ o, Wb.heap[b]? = some o /\ o.isCells = true := by obtain ⟨o, c, A', ca', hd'⟩ := hrd1.head; exact BD hd'.c0
  obtain ⟨kv0, vk0, tvs, hk1⟩ := hI1.ks
  rw [hst] at hk1
  dsimp only at hk1
  obtain ⟨A7, cap7, rfl, hob⟩ := AE hk1.co
  obtain ⟨A5, cap5, rfl, hob5⟩ := AE hk1.ko
  have hlen7 : tvs.length <= 1000000 /\ kss.length <= 1000000 := by have := Ef.len _ _ hk1.tr; omega
  have hszb := hI1.sz
  have HI := hid hI1
  have HK := hid hk1
  have HOB := hid (Ai hob hob5)
  have HB := hid hbc
  have HRD := hid hrd1
  have HNX := hid (fun t rest hi => Tv.next (r0 := r0) (col := col) (d := d) (n := m) (es := es) (pre := pre) (y := (⟨no, col, l2⟩, (A, ca))) hst hfu hle hkk hgd hv (t := t) (rest := rest) hi)
  have HV := hid hv
  dsimp only at hIT
  obtain ⟨L2, hL2⟩ : ∃ z, l2.length = z := ⟨_, rfl⟩
  rw [hL2] at hIT hX |-
  obtain ⟨rr, hrr⟩ : ∃ z, FT ms (d + 1) ⟨no, col, l2⟩ r = z := ⟨_, rfl⟩
  rw [show (if (Co l2).2 ≠ 0 then BR.bad no (Co l2).2 else Bl ms (d + 1) ⟨no, col, l2⟩ r) = rr from hrr] at hIT
  obtain ⟨kx, hkx⟩ : ∃ z, (Co l2).1 = z := ⟨_, rfl⟩
  rw [hkx] at hIT
  have HKX := hid hkx
  have HRR := hid hrr
  have b0 := hI1.b0.cell
  have b1 := hI1.b1.cell
  obtain ⟨x0, x1, x2, _⟩ := Az hX
  clear hob5 hkk hI ht hX hen hen1 hrd1 hI1 hk1 hob hbc hv hst hfu hle hgd hcr hxl hL2 hkx hrr hbg hsz hsW h HR HL HS0 hC
  gi_wp2_with fail
  refine (CallsIn.inRound l (callsIn_wide.2 hIT)).mono ?_
  intro e w5 hP
  clear hIT x0 x1 x2 b0 b1
  cases rr with
  | out => exact hP.elim
  | bad n2 e2 =>
   obtain ⟨kq, tv, rfl, ⟨tk, tnm, xk, xn, xs, KA0, kl, kc, TA, tl, tc, rfl⟩, ⟨es5, hr5⟩, hm5⟩ := hP
   obtain ⟨q0, q1, q2⟩ := kq
   unfold Ia
   dsimp only
   have hr0 : r0 = .bad n2 e2 := by have := HV.out; rw [HRR.out] at this; exact this.symm
   have hbK : Below w5.heap.size w5 ((w5.alloc (.cells #[.int .i64 q0, .int .i64 q1, .string q2] 26)).alloc (.cells #[.int .i64 tk, .string tnm, .int .i64 xk, .int .i64 xn, .string xs, .slice KA0 kl kc, .slice TA tl tc] 30)) := ((Bq _ w5).alloc Nr _).alloc (by simp) _
   have htb := Aa (hm5.heap HK.out.tb (by omega) (by omega)) hbK
   have hrt := Aa (hm5.heap HI.out.rt (by omega) (by omega)) hbK
   have hre : Boxed ((w5.alloc (.cells #[.int .i64 q0, .int .i64 q1, .string q2] 26)).alloc (.cells #[.int .i64 tk, .string tnm, .int .i64 xk, .int .i64 xn, .string xs, .slice KA0 kl kc, .slice TA tl tc] 30)) (N + 1 + 1 + 1) 51 .nilIface := Aa (hm5.heap HI.out.re (by omega) (by omega)) hbK
   have HM5 := hid (Ai (HI.out.md.trans hm5) (Ai hr5 (Ai hr0 (Ai hrt hre))))
   have HKP := hid ((Ag.of_mod (K := KQ N) hm5 HRD.out HB.out (fun hk => by unfold KQ at hk; omega) (fun hk => by unfold KQ at hk; omega)).trans (Ag.of_below hbK))
   obtain ⟨t0, t1, t2, t3, t4, t5, t6, _⟩ := Ay htb
   unfold zT at hrt
   obtain ⟨_, _, _, _, _, _, _, f0, f1, f2, f3, f4, f5, f6⟩ := Ay hrt
   have hr3 := hre.cell
   have hf3 := hre.frozen
   have hsz5 := hbK.size
   have hsz5' := hm5.size
   clear hm5 hr5 hr0 htb hrt hre hbK
   unfold Ci
   gi_wp2
   obtain ⟨hZ1, hZ2, hZ3, hZ4⟩ := Pz (N := N) (c0 := .int .i64 2) (c1 := .string ⟨#[]⟩) (c2 := .int .i64 0) (c3 := .int .i64 0) (c4 := .string ⟨#[]⟩) (c5 := .slice A5 kss.length cap5) (c6 := .slice A7 tvs.length cap7) (ev := Ci n2 e2) HM5.out.2.2.2.1 HM5.out.2.2.2.2 _ rfl
   have hbK : Below w5.heap.size w5 ((w5.alloc (.cells #[.int .i64 q0, .int .i64 q1, .string q2] 26)).alloc (.cells #[.int .i64 tk, .string tnm, .int .i64 xk, .int .i64 xn, .string xs, .slice KA0 kl kc, .slice TA tl tc] 30)) := ((Bq _ w5).alloc Nr _).alloc (by simp) _
   exact ⟨HKP.out.trans hZ4, rfl, n2, e2, _, _, _, _, _, _, _, _, hid HM5.out.2.2.1, rfl, ⟨_, _, _, _, _, _, _, _, _, _, _, rfl⟩, hZ1, hZ2, ⟨es5, (HM5.out.2.1.below hbK).news hZ3 (by omega) (fun k hk => by omega)⟩, (HM5.out.1.below hbK).news (hZ3.mono (by omega)) (fun k hk => by omega)⟩
  | ok t rest =>
   obtain ⟨tv, rfl, htv, hr5, hm5⟩ := hP
   obtain ⟨tk, tnm, xk, xn, xs, KA0, kl, kc, TA, tl, tc, rfl⟩ := htv.form
   have hnx := HNX.out t rest HRR.out
   have hbK : Below w5.heap.size w5 ((w5.alloc (.cells #[.int .i64 kx.kind, .int .i64 kx.num, .string kx.str] 26)).alloc (.cells #[.int .i64 tk, .string tnm, .int .i64 xk, .int .i64 xn, .string xs, .slice KA0 kl kc, .slice TA tl tc] 30)) := ((Bq _ w5).alloc Nr _).alloc (by simp) _
   have hszb5 := hm5.size
   have hks5 := ((HK.out.turnC (C := fun k => k = R \/ k = b) hm5 (by omega) (fun k hk => by omega)).below hbK).base
   have ne5 : ∀ q, (Value.slice A5 kss.length cap5).ownBlock = some q -> q < w5.heap.size := fun q e => by have := (HOB.out.2 q e).2.1; omega
   have ne7 : ∀ q, (Value.slice A7 tvs.length cap7).ownBlock = some q -> q < w5.heap.size := fun q e => by have := (HOB.out.1 q e).2.1; omega
   have htk : Ao ((w5.alloc (.cells #[.int .i64 kx.kind, .int .i64 kx.num, .string kx.str] 26)).alloc (.cells #[.int .i64 tk, .string tnm, .int .i64 xk, .int .i64 xn, .string xs, .slice KA0 kl kc, .slice TA tl tc] 30)) (fun q => N + 8 <= q /\ q < w5.heap.size /\ DU (N + 8) (.slice A5 kss.length cap5) (.slice A7 tvs.length cap7) q) t (.agg #[.int .i64 tk, .string tnm, .int .i64 xk, .int .i64 xn, .string xs, .slice KA0 kl kc, .slice TA tl tc]) := (Au (fun q hq hq2 => ⟨by omega, hq, by omega, (fun e => by have := (HOB.out.2 q e).2.1; omega), fun e => by have := (HOB.out.1 q e).2.1; omega⟩) t _ htv).below hbK
   have hP : ((w5.alloc (.cells #[.int .i64 kx.kind, .int .i64 kx.num, .string kx.str] 26)).alloc (.cells #[.int .i64 tk, .string tnm, .int .i64 xk, .int .i64 xn, .string xs, .slice KA0 kl kc, .slice TA tl tc] 30)).heap[w5.heap.size]? = some (.cells #[.int .i64 kx.kind, .int .i64 kx.num, .string kx.str] 26) := Aa (Wn w5 (.cells #[.int .i64 kx.kind, .int .i64 kx.num, .string kx.str] 26)) ((Bq _ _).alloc Nr _)
   have hQ : ((w5.alloc (.cells #[.int .i64 kx.kind, .int .i64 kx.num, .string kx.str] 26)).alloc (.cells #[.int .i64 tk, .string tnm, .int .i64 xk, .int .i64 xn, .string xs, .slice KA0 kl kc, .slice TA tl tc] 30)).heap[w5.heap.size + 1]? = some (.cells #[.int .i64 tk, .string tnm, .int .i64 xk, .int .i64 xn, .string xs, .slice KA0 kl kc, .slice TA tl tc] 30) := by have := Wn (w5.alloc (.cells #[.int .i64 kx.kind, .int .i64 kx.num, .string kx.str] 26)) (.cells #[.int .i64 tk, .string tnm, .int .i64 xk, .int .i64 xn, .string xs, .slice KA0 kl kc, .slice TA tl tc] 30); rw [World.size_alloc] at this; exact this
   have HR5 := hid (Ai (hr5.below hbK) (Ai ((HI.out.md.trans hm5).below hbK) hnx))
   have HBX := hid (Ai (Ac (Aa (hm5.heap HI.out.b0 (by omega) (by omega)) (Bq _ _)) hbK) (Ai (Aa (hm5.heap HI.out.b1 (by omega) (by omega)) hbK) (Ai (Aa (hm5.heap HI.out.rt (by omega) (by omega)) hbK) (Aa (hm5.heap HI.out.re (by omega) (by omega)) hbK))))
   have HKP := hid ((Ag.of_mod (K := KQ N) hm5 HRD.out HB.out (fun hk => by unfold KQ at hk; omega) (fun hk => by unfold KQ at hk; omega)).trans (Ag.of_below hbK))
   obtain ⟨n7, hn7⟩ : ∃ n, tvs.length = n := ⟨_, rfl⟩
   obtain ⟨n3, hn3⟩ : ∃ n, kss.length = n := ⟨_, rfl⟩
   rw [hn7, hn3] at hks5 htk hlen7
   rw [hn7] at ne7
   rw [hn3] at ne5
   have hs := ES hks5 hP hQ
   obtain ⟨i0, hi0, hz0, hz1, hz2⟩ := Gt
   obtain ⟨i3, hi3, hy0, hy1, hy2⟩ := info_parts OT
   have hsX : w5.heap.size + 1 + 1 <= ((w5.alloc (.cells #[.int .i64 kx.kind, .int .i64 kx.num, .string kx.str] 26)).alloc (.cells #[.int .i64 tk, .string tnm, .int .i64 xk, .int .i64 xn, .string xs, .slice KA0 kl kc, .slice TA tl tc] 30)).heap.size := by simp
   have hN8 : N + 8 <= w5.heap.size := Nat.le_trans hszb hszb5
   have hX8 : N + 8 <= ((w5.alloc (.cells #[.int .i64 kx.kind, .int .i64 kx.num, .string kx.str] 26)).alloc (.cells #[.int .i64 tk, .string tnm, .int .i64 xk, .int .i64 xn, .string xs, .slice KA0 kl kc, .slice TA tl tc] 30)).heap.size := Nat.le_trans (by omega) hsX
   have HKS := hid hks5
   have HT := hid htk
   unfold Ia
   clear hr5 hm5 htv hks5 htk hbK hnx HNX HB HRD HOB HV HRR hszb5 hn1
   gi_wp2
   refine Dl (S := fun L w' => (L.getD 4 true = false -> w'.cell? ⟨N + 1 + 1 + 1 + 1, 5, none⟩ = some (.slice A5 n3 cap5)) /\ (L.getD 9 true = false -> w'.cell? ⟨N + 1 + 1 + 1 + 1, 6, none⟩ = some (.slice A7 n7 cap7)) /\ (L.getD 3 true = false -> w'.cell? ⟨w5.heap.size, 0, none⟩ = some (.int .i64 kx.kind) /\ w'.cell? ⟨w5.heap.size, 1, none⟩ = some (.int .i64 kx.num) /\ w'.cell? ⟨w5.heap.size, 2, none⟩ = some (.string kx.str)) /\ (L.getD 8 true = false -> w'.cell? ⟨w5.heap.size + 1, 0, none⟩ = some (.int .i64 tk) /\ w'.cell? ⟨w5.heap.size + 1, 1, none⟩ = some (.string tnm) /\ w'.cell? ⟨w5.heap.size + 1, 2, none⟩ = some (.int .i64 xk) /\ w'.cell? ⟨w5.heap.size + 1, 3, none⟩ = some (.int .i64 xn) /\ w'.cell? ⟨w5.heap.size + 1, 4, none⟩ = some (.string xs) /\ w'.cell? ⟨w5.heap.size + 1, 5, none⟩ = some (.slice KA0 kl kc) /\ w'.cell? ⟨w5.heap.size + 1, 6, none⟩ = some (.slice TA tl tc))) (by kernel_rfl) (by kernel_rfl) (by rintro ⟨a, w, h⟩; exact h) ⟨fun _ => hs.1, fun _ => hs.2.1, fun _ => hs.2.2.1, fun _ => hs.2.2.2⟩ (fun hS => ?_)
   have HKD := hid (HKS.out.below (show Below ((w5.alloc (.cells #[.int .i64 kx.kind, .int .i64 kx.num, .string kx.str] 26)).alloc (.cells #[.int .i64 tk, .string tnm, .int .i64 xk, .int .i64 xn, .string xs, .slice KA0 kl kc, .slice TA tl tc] 30)).heap.size ((w5.alloc (.cells #[.int .i64 kx.kind, .int .i64 kx.num, .string kx.str] 26)).alloc (.cells #[.int .i64 tk, .string tnm, .int .i64 xk, .int .i64 xn, .string xs, .slice KA0 kl kc, .slice TA tl tc] 30)) ((w5.alloc (.cells #[.int .i64 kx.kind, .int .i64 kx.num, .string kx.str] 26)).alloc (.cells #[.int .i64 tk, .string tnm, .int .i64 xk, .int .i64 xn, .string xs, .slice KA0 kl kc, .slice TA tl tc] 30)).drew from (Bq _ _).drew))
   have HTR := hid (HT.out.below (show Below ((w5.alloc (.cells #[.int .i64 kx.kind, .int .i64 kx.num, .string kx.str] 26)).alloc (.cells #[.int .i64 tk, .string tnm, .int .i64 xk, .int .i64 xn, .string xs, .slice KA0 kl kc, .slice TA tl tc] 30)).heap.size ((w5.alloc (.cells #[.int .i64 kx.kind, .int .i64 kx.num, .string kx.str] 26)).alloc (.cells #[.int .i64 tk, .string tnm, .int .i64 xk, .int .i64 xn, .string xs, .slice KA0 kl kc, .slice TA tl tc] 30)) ((w5.alloc (.cells #[.int .i64 kx.kind, .int .i64 kx.num, .string kx.str] 26)).alloc (.cells #[.int .i64 tk, .string tnm, .int .i64 xk, .int .i64 xn, .string xs, .slice KA0 kl kc, .slice TA tl tc] 30)).drew from (Bq _ _).drew))
   replace hP : ((w5.alloc (.cells #[.int .i64 kx.kind, .int .i64 kx.num, .string kx.str] 26)).alloc (.cells #[.int .i64 tk, .string tnm, .int .i64 xk, .int .i64 xn, .string xs, .slice KA0 kl kc, .slice TA tl tc] 30)).drew.heap[w5.heap.size]? = some (.cells #[.int .i64 kx.kind, .int .i64 kx.num, .string kx.str] 26) := hP
   replace hQ : ((w5.alloc (.cells #[.int .i64 kx.kind, .int .i64 kx.num, .string kx.str] 26)).alloc (.cells #[.int .i64 tk, .string tnm, .int .i64 xk, .int .i64 xn, .string xs, .slice KA0 kl kc, .slice TA tl tc] 30)).drew.heap[w5.heap.size + 1]? = some (.cells #[.int .i64 tk, .string tnm, .int .i64 xk, .int .i64 xn, .string xs, .slice KA0 kl kc, .slice TA tl tc] 30) := hQ
   replace hsX : w5.heap.size + 1 + 1 <= ((w5.alloc (.cells #[.int .i64 kx.kind, .int .i64 kx.num, .string kx.str] 26)).alloc (.cells #[.int .i64 tk, .string tnm, .int .i64 xk, .int .i64 xn, .string xs, .slice KA0 kl kc, .slice TA tl tc] 30)).drew.heap.size := hsX
   clear hs HKS HT
   generalize hX0 : ((w5.alloc (.cells #[.int .i64 kx.kind, .int .i64 kx.num, .string kx.str] 26)).alloc (.cells #[.int .i64 tk, .string tnm, .int .i64 xk, .int .i64 xn, .string xs, .slice KA0 kl kc, .slice TA tl tc] 30)).drew = X0 at hS HKD HTR hP hQ hsX |-
   clear hX0
   refine wL 0 1 hS (fun hS => ?_); try simp only [gS]
   refine wM 1 4 ?_ ?_ hS (fun hS => ?_)
   rotate_left
   ·intro L w' hL hm; (try dsimp only at hL); have hc := hL.1 hm; go_simp; (try with_reducible rfl)
   try simp only [gS]
   refine wM 2 3 ?_ ?_ hS (fun hS => ?_)
   rotate_left
   ·intro L w' hL hm; (try dsimp only at hL); obtain ⟨hc0, hc1, hc2⟩ := hL.2.2.1 hm; go_simp; (try with_reducible rfl)
   try simp only [gS]
   refine wL 5 6 hS (fun hS => ?_); try simp only [gS]
   refine wM 6 9 ?_ ?_ hS (fun hS => ?_)
   rotate_left
   ·intro L w' hL hm; (try dsimp only at hL); have hc := hL.2.1 hm; go_simp; (try with_reducible rfl)
   try simp only [gS]
   refine wM 7 8 ?_ ?_ hS (fun hS => ?_)
   rotate_left
   ·intro L w' hL hm; (try dsimp only at hL); obtain ⟨hc0, hc1, hc2, hc3, hc4, hc5, hc6⟩ := hL.2.2.2 hm; go_simp; (try with_reducible rfl)
   try simp only [gS]
   refine Aj (rs := [3, 8]) (by kernel_rfl) (by simp) (Ad.cons rfl (by rfl) (fun K hK => ?_) (Ad.cons rfl (by rfl) (fun K hK => ?_) Ad.nil))
   ·go_simp
    have hb1 : Below X0.heap.size X0 (X0.alloc (.cells #[.int .i64 kx.kind, .int .i64 kx.num, .string kx.str] 26)) := (Bq _ X0).alloc Nr _
    replace HKD := hid (HKD.out.below hb1)
    replace HTR := hid (HTR.out.below hb1)
    replace hP := Aa hP hb1
    replace hQ := Aa hQ hb1
    have hZ3 := Wn X0 (.cells #[.int .i64 kx.kind, .int .i64 kx.num, .string kx.str] 26)
    have hq3 : w5.heap.size + 1 + 1 <= X0.heap.size := hsX
    try (replace hZ8 := Aa hZ8 hb1)
    have hszz := Nat.le_trans hsX hb1.size
    have hs := ES HKD.out hP hQ
    refine hK.out _ _ ⟨fun _ => hs.1, fun _ => hs.2.1, fun _ => hs.2.2.1, fun _ => hs.2.2.2⟩ (fun hS => ?_)
    clear hK K hb1 hsX
    try simp only [gS]
    first | (generalize hgen1 : X0.alloc (.cells #[.int .i64 kx.kind, .int .i64 kx.num, .string kx.str] 26) = Y1 at hS HKD HTR hP hQ hZ3 hZ8 hszz hs |-) | (generalize hgen1 : X0.alloc (.cells #[.int .i64 kx.kind, .int .i64 kx.num, .string kx.str] 26) = Y1 at hS HKD HTR hP hQ hZ3 hszz hs |-)
    have hsX := hszz
    clear hszz hgen1
    refine Aj (rs := [4, 8]) (by kernel_rfl) (by simp) (Ad.cons rfl (by rfl) (fun K hK => ?_) (Ad.cons rfl (by rfl) (fun K hK => ?_) Ad.nil))
    ·refine wp_append_lies _ (.tmp 34) (.tmp 36) 27 (by rfl) (N + 8) 26 i3 (.agg #[.int .i64 0, .int .i64 0, .string ⟨#[]⟩]) 3 32 (by kernel_rfl) hi3 hy0 hy1 hy2 (by rfl) (by decide) (.slice A5 n3 cap5) n3 (kss.flatMap A6) (by rfl) (hn3 ▸ HKD.out.ko) ⟨X0.heap.size, 0, none⟩ 1 1 (A6 kx) (by rfl) (by rfl) (World.news_of_block hZ3) (Hb kx) (by decide) (by unfold maxLen; omega) (by omega) (by omega) _ rfl ?_
     intro g5 gc5 w6 hown5 hgrow5 hat5 hlt5
     have hk5 := HKD.out.growK kx (by omega) (by omega) (fun k hk => hk.2.1) (by omega) rfl (by rw [hn3]; exact hown5) hgrow5 hat5
     rw [hn3] at hk5
     have hz5 := hgrow5.size
     replace HTR := hid (As (S := fun q => N + 8 <= q /\ q < w5.heap.size /\ DU (N + 8) (.slice A5 n3 cap5) (.slice A7 n7 cap7) q) ⟨hgrow5.size, fun q o x hb hc => (hgrow5.cell_far ⟨q, o, none⟩ (AS hc) (fun e => hb.2.2.2.1 e.symm)).trans hc⟩ _ _ HTR.out)
     replace hP := (hgrow5.block _ (Gl hP) (fun e => by have := ne5 _ e.symm; omega)).trans hP
     replace hQ := (hgrow5.block _ (Gl hQ) (fun e => by have := ne5 _ e.symm; omega)).trans hQ
     try (replace hZ8 := (hgrow5.block _ (Gl hZ8) (fun e => by have := ne5 _ e.symm; omega)).trans hZ8)
     replace HKD := hid hk5
     have hs := ES HKD.out hP hQ
     have hg5 : (Value.slice A5 n3 cap5).ownBlock = some g5 \/ w5.heap.size <= g5 := by rcases hat5 with e | e; exact .inl e; right; omega
     have hsY : w5.heap.size + 1 + 1 <= w6.heap.size := by omega
     refine hK.out _ _ ⟨fun _ => hs.1, fun _ => hs.2.1, fun _ => hs.2.2.1, fun _ => hs.2.2.2⟩ (fun hS => ?_)
     clear hK K hown5 hgrow5 hat5 hk5 hsX hz5 hZ3
     try simp only [gS]
     have hsX := hsY
     clear hsY
     refine wL 10 11 hS (fun hS => ?_); try simp only [gS]
     refine Aj (rs := [8]) (by kernel_rfl) (by simp) (Ad.cons rfl (by rfl) (fun K hK => ?_) Ad.nil)
     go_simp
     have hb2 : Below w6.heap.size w6 (w6.alloc (.cells #[.int .i64 tk, .string tnm, .int .i64 xk, .int .i64 xn, .string xs, .slice KA0 kl kc, .slice TA tl tc] 30)) := (Bq _ w6).alloc Nr _
     replace HKD := hid (HKD.out.below hb2)
     replace HTR := hid (HTR.out.below hb2)
     replace hP := Aa hP hb2
     replace hQ := Aa hQ hb2
     have hZ8 := Wn w6 (.cells #[.int .i64 tk, .string tnm, .int .i64 xk, .int .i64 xn, .string xs, .slice KA0 kl kc, .slice TA tl tc] 30)
     have hq8 : w5.heap.size + 1 + 1 <= w6.heap.size := hsX
     try (replace hZ3 := Aa hZ3 hb2)
     have hszz := Nat.le_trans hsX hb2.size
     have hs := ES HKD.out hP hQ
     refine hK.out _ _ ⟨fun _ => hs.1, fun _ => hs.2.1, fun _ => hs.2.2.1, fun _ => hs.2.2.2⟩ (fun hS => ?_)
     clear hK K hb2 hsX
     try simp only [gS]
     first | (generalize hgen2 : w6.alloc (.cells #[.int .i64 tk, .string tnm, .int .i64 xk, .int .i64 xn, .string xs, .slice KA0 kl kc, .slice TA tl tc] 30) = Y2 at hS HKD HTR hP hQ hZ3 hZ8 hszz hs |-) | (generalize hgen2 : w6.alloc (.cells #[.int .i64 tk, .string tnm, .int .i64 xk, .int .i64 xn, .string xs, .slice KA0 kl kc, .slice TA tl tc] 30) = Y2 at hS HKD HTR hP hQ hZ8 hszz hs |-)
     have hsX := hszz
     clear hszz hgen2
     refine Aj (rs := [9]) (by kernel_rfl) (by simp) (Ad.cons rfl (by rfl) (fun K hK => ?_) Ad.nil)
     refine wp_append_lies _ (.tmp 39) (.tmp 41) 28 (by rfl) (N + 8) 30 i0 (.agg #[.int .i64 0, .string ⟨#[]⟩, .int .i64 0, .int .i64 0, .string ⟨#[]⟩, .slice none 0 0, .slice none 0 0]) 7 104 (by kernel_rfl) hi0 hz0 hz1 hz2 (by rfl) (by decide) (.slice A7 n7 cap7) n7 (tvs.flatMap Bf) (by rfl) (hn7 ▸ HKD.out.co) ⟨w6.heap.size, 0, none⟩ 1 1 [.int .i64 tk, .string tnm, .int .i64 xk, .int .i64 xn, .string xs, .slice KA0 kl kc, .slice TA tl tc] (by rfl) (by rfl) (World.news_of_block hZ8) (Ep _ _ _ _ _ _ _ _ _ _ _) (by decide) (by unfold maxLen; omega) (by omega) (by omega) _ rfl ?_
     intro g7 gc7 w7 hown7 hgrow7 hat7 hlt7
     have hTD : Ao Y2 (DU (N + 8) (.slice (some ⟨g5, 0, none⟩) (n3 + 1) gc5) (.slice A7 n7 cap7)) t (.agg #[.int .i64 tk, .string tnm, .int .i64 xk, .int .i64 xn, .string xs, .slice KA0 kl kc, .slice TA tl tc]) := Au (fun q _ hb => ⟨hb.1, fun e => by
       simp [Value.ownBlock] at e
       subst e
       rcases hg5 with e | e
       ·exact hb.2.2.2.1 e
       ·have := hb.2.1; omega, hb.2.2.2.2⟩) _ _ HTR.out
     have hk7 := HKD.out.growC hTD (by omega) (by omega) (fun k hk => hk.2.1) (by omega) rfl (by rw [hn7]; exact hown7) hgrow7 hat7
     rw [hn7] at hk7
     replace hP := (hgrow7.block _ (Gl hP) (fun e => by have := ne7 _ e.symm; omega)).trans hP
     replace hQ := (hgrow7.block _ (Gl hQ) (fun e => by have := ne7 _ e.symm; omega)).trans hQ
     replace HKD := hid hk7
     have hs := ES HKD.out hP hQ
     have hf5 : w7.frozen? ⟨N + 1 + 1 + 1 + 1, 5, none⟩ = false := by simp [World.frozen?, HKD.out.tb]
     have hf6 : w7.frozen? ⟨N + 1 + 1 + 1 + 1, 6, none⟩ = false := by simp [World.frozen?, HKD.out.tb]
     obtain ⟨hc5, hc6, _, _⟩ := id hs
     refine hK.out _ _ ⟨fun _ => hs.1, fun _ => hs.2.1, fun _ => hs.2.2.1, fun _ => hs.2.2.2⟩ (fun hS => ?_)
     clear hK K hown7 hgrow7 hat7 hk7 hTD hZ8
     try simp only [gS]
     refine Aj (rs := [11]) (by kernel_rfl) (by simp) (Ad.cons rfl (by rfl) (fun K hK => ?_) Ad.nil)
     go_simp
     refine hK.out _ _ ⟨fun hc => absurd hc (by decide), fun hc => absurd hc (by decide), fun hc => absurd hc (by decide), fun hc => absurd hc (by decide)⟩ (fun hS => ?_)
     clear hK K
     try simp only [gS]
     refine wL 12 13 hS (fun hS => ?_); try simp only [gS]
     refine Aj (rs := [13]) (by kernel_rfl) (by simp) (Ad.cons rfl (by rfl) (fun K hK => ?_) Ad.nil)
     go_simp
     refine hK.out _ _ ⟨fun hc => absurd hc (by decide), fun hc => absurd hc (by decide), fun hc => absurd hc (by decide), fun hc => absurd hc (by decide)⟩ (fun hS => ?_)
     clear hK K
     try simp only [gS]
     refine AU (by kernel_rfl) ?_ _
     have hfin := HKD.out.head (by omega) (by omega) (fun hk => hk.2.2 rfl) _ rfl
     have hrd := HR5.out.1.belowR (hfin.kp.below (Bq (R + 1) _) (by omega) (by have := HR5.out.1.rlt; omega))
     have hmd := HR5.out.2.1.keeps hfin.kp hN
     have hcur : ED d m es (pre ++ [(⟨no, col, l2⟩, (A, ca))]) = rest := by unfold ED; rw [HR5.out.2.2.1]
     exact ⟨HKP.out.trans (hfin.kp.weak (Nat.zero_le _) (fun k hk => by unfold KQ at hk; unfold KT; omega)), ⟨HR5.out.2.2.2, Nat.le_trans hX8 hfin.kp.size, hmd, by rw [hcur]; exact hrd, Am HBX.out.1 hfin.kp (.inr (by unfold KT; omega)), Am HBX.out.2.1 hfin.kp (.inr (by unfold KT; omega)), hfin.kp.heap HBX.out.2.2.1 (.inr (.inl (by unfold KT; omega))), Am HBX.out.2.2.2 hfin.kp (.inr (by unfold KT; omega)), _, _, _, by rw [HR5.out.2.2.1]; dsimp only; rw [HKX.out]; exact hfin.base⟩⟩
    ·go_simp
     have hb3 : Below Y1.heap.size Y1 (Y1.alloc (.cells #[.int .i64 tk, .string tnm, .int .i64 xk, .int .i64 xn, .string xs, .slice KA0 kl kc, .slice TA tl tc] 30)) := (Bq _ Y1).alloc Nr _
     replace HKD := hid (HKD.out.below hb3)
     replace HTR := hid (HTR.out.below hb3)
     replace hP := Aa hP hb3
     replace hQ := Aa hQ hb3
     have hZ8 := Wn Y1 (.cells #[.int .i64 tk, .string tnm, .int .i64 xk, .int .i64 xn, .string xs, .slice KA0 kl kc, .slice TA tl tc] 30)
     have hq8 : w5.heap.size + 1 + 1 <= Y1.heap.size := hsX
     try (replace hZ3 := Aa hZ3 hb3)
     have hszz := Nat.le_trans hsX hb3.size
     have hs := ES HKD.out hP hQ
     refine hK.out _ _ ⟨fun _ => hs.1, fun _ => hs.2.1, fun _ => hs.2.2.1, fun _ => hs.2.2.2⟩ (fun hS => ?_)
     clear hK K hb3 hsX
     try simp only [gS]
     first | (generalize hgen3 : Y1.alloc (.cells #[.int .i64 tk, .string tnm, .int .i64 xk, .int .i64 xn, .string xs, .slice KA0 kl kc, .slice TA tl tc] 30) = Y3 at hS HKD HTR hP hQ hZ3 hZ8 hszz hs |-) | (generalize hgen3 : Y1.alloc (.cells #[.int .i64 tk, .string tnm, .int .i64 xk, .int .i64 xn, .string xs, .slice KA0 kl kc, .slice TA tl tc] 30) = Y3 at hS HKD HTR hP hQ hZ8 hszz hs |-)
     have hsX := hszz
     clear hszz hgen3
     refine Aj (rs := [4]) (by kernel_rfl) (by simp) (Ad.cons rfl (by rfl) (fun K hK => ?_) Ad.nil)
     refine wp_append_lies _ (.tmp 34) (.tmp 36) 27 (by rfl) (N + 8) 26 i3 (.agg #[.int .i64 0, .int .i64 0, .string ⟨#[]⟩]) 3 32 (by kernel_rfl) hi3 hy0 hy1 hy2 (by rfl) (by decide) (.slice A5 n3 cap5) n3 (kss.flatMap A6) (by rfl) (hn3 ▸ HKD.out.ko) ⟨X0.heap.size, 0, none⟩ 1 1 (A6 kx) (by rfl) (by rfl) (World.news_of_block hZ3) (Hb kx) (by decide) (by unfold maxLen; omega) (by omega) (by omega) _ rfl ?_
     intro g5 gc5 w6 hown5 hgrow5 hat5 hlt5
     have hk5 := HKD.out.growK kx (by omega) (by omega) (fun k hk => hk.2.1) (by omega) rfl (by rw [hn3]; exact hown5) hgrow5 hat5
     rw [hn3] at hk5
     have hz5 := hgrow5.size
     replace HTR := hid (As (S := fun q => N + 8 <= q /\ q < w5.heap.size /\ DU (N + 8) (.slice A5 n3 cap5) (.slice A7 n7 cap7) q) ⟨hgrow5.size, fun q o x hb hc => (hgrow5.cell_far ⟨q, o, none⟩ (AS hc) (fun e => hb.2.2.2.1 e.symm)).trans hc⟩ _ _ HTR.out)
     replace hP := (hgrow5.block _ (Gl hP) (fun e => by have := ne5 _ e.symm; omega)).trans hP
     replace hQ := (hgrow5.block _ (Gl hQ) (fun e => by have := ne5 _ e.symm; omega)).trans hQ
     try (replace hZ8 := (hgrow5.block _ (Gl hZ8) (fun e => by have := ne5 _ e.symm; omega)).trans hZ8)
     replace HKD := hid hk5
     have hs := ES HKD.out hP hQ
     have hg5 : (Value.slice A5 n3 cap5).ownBlock = some g5 \/ w5.heap.size <= g5 := by rcases hat5 with e | e; exact .inl e; right; omega
     have hsY : w5.heap.size + 1 + 1 <= w6.heap.size := by omega
     refine hK.out _ _ ⟨fun _ => hs.1, fun _ => hs.2.1, fun _ => hs.2.2.1, fun _ => hs.2.2.2⟩ (fun hS => ?_)
     clear hK K hown5 hgrow5 hat5 hk5 hsX hz5 hZ3
     try simp only [gS]
     have hsX := hsY
     clear hsY
     refine wL 10 11 hS (fun hS => ?_); try simp only [gS]
     refine Aj (rs := [9]) (by kernel_rfl) (by simp) (Ad.cons rfl (by rfl) (fun K hK => ?_) Ad.nil)
     refine wp_append_lies _ (.tmp 39) (.tmp 41) 28 (by rfl) (N + 8) 30 i0 (.agg #[.int .i64 0, .string ⟨#[]⟩, .int .i64 0, .int .i64 0, .string ⟨#[]⟩, .slice none 0 0, .slice none 0 0]) 7 104 (by kernel_rfl) hi0 hz0 hz1 hz2 (by rfl) (by decide) (.slice A7 n7 cap7) n7 (tvs.flatMap Bf) (by rfl) (hn7 ▸ HKD.out.co) ⟨Y1.heap.size, 0, none⟩ 1 1 [.int .i64 tk, .string tnm, .int .i64 xk, .int .i64 xn, .string xs, .slice KA0 kl kc, .slice TA tl tc] (by rfl) (by rfl) (World.news_of_block hZ8) (Ep _ _ _ _ _ _ _ _ _ _ _) (by decide) (by unfold maxLen; omega) (by omega) (by omega) _ rfl ?_
     intro g7 gc7 w7 hown7 hgrow7 hat7 hlt7
     have hTD : Ao w6 (DU (N + 8) (.slice (some ⟨g5, 0, none⟩) (n3 + 1) gc5) (.slice A7 n7 cap7)) t (.agg #[.int .i64 tk, .string tnm, .int .i64 xk, .int .i64 xn, .string xs, .slice KA0 kl kc, .slice TA tl tc]) := Au (fun q _ hb => ⟨hb.1, fun e => by
       simp [Value.ownBlock] at e
       subst e
       rcases hg5 with e | e
       ·exact hb.2.2.2.1 e
       ·have := hb.2.1; omega, hb.2.2.2.2⟩) _ _ HTR.out
     have hk7 := HKD.out.growC hTD (by omega) (by omega) (fun k hk => hk.2.1) (by omega) rfl (by rw [hn7]; exact hown7) hgrow7 hat7
     rw [hn7] at hk7
     replace hP := (hgrow7.block _ (Gl hP) (fun e => by have := ne7 _ e.symm; omega)).trans hP
     replace hQ := (hgrow7.block _ (Gl hQ) (fun e => by have := ne7 _ e.symm; omega)).trans hQ
     replace HKD := hid hk7
     have hs := ES HKD.out hP hQ
     have hf5 : w7.frozen? ⟨N + 1 + 1 + 1 + 1, 5, none⟩ = false := by simp [World.frozen?, HKD.out.tb]
     have hf6 : w7.frozen? ⟨N + 1 + 1 + 1 + 1, 6, none⟩ = false := by simp [World.frozen?, HKD.out.tb]
     obtain ⟨hc5, hc6, _, _⟩ := id hs
     refine hK.out _ _ ⟨fun _ => hs.1, fun _ => hs.2.1, fun _ => hs.2.2.1, fun _ => hs.2.2.2⟩ (fun hS => ?_)
     clear hK K hown7 hgrow7 hat7 hk7 hTD hZ8
     try simp only [gS]
     refine Aj (rs := [11]) (by kernel_rfl) (by simp) (Ad.cons rfl (by rfl) (fun K hK => ?_) Ad.nil)
     go_simp
     refine hK.out _ _ ⟨fun hc => absurd hc (by decide), fun hc => absurd hc (by decide), fun hc => absurd hc (by decide), fun hc => absurd hc (by decide)⟩ (fun hS => ?_)
     clear hK K
     try simp only [gS]
     refine wL 12 13 hS (fun hS => ?_); try simp only [gS]
     refine Aj (rs := [13]) (by kernel_rfl) (by simp) (Ad.cons rfl (by rfl) (fun K hK => ?_) Ad.nil)
     go_simp
     refine hK.out _ _ ⟨fun hc => absurd hc (by decide), fun hc => absurd hc (by decide), fun hc => absurd hc (by decide), fun hc => absurd hc (by decide)⟩ (fun hS => ?_)
     clear hK K
     try simp only [gS]
     refine AU (by kernel_rfl) ?_ _
     have hfin := HKD.out.head (by omega) (by omega) (fun hk => hk.2.2 rfl) _ rfl
     have hrd := HR5.out.1.belowR (hfin.kp.below (Bq (R + 1) _) (by omega) (by have := HR5.out.1.rlt; omega))
     have hmd := HR5.out.2.1.keeps hfin.kp hN
     have hcur : ED d m es (pre ++ [(⟨no, col, l2⟩, (A, ca))]) = rest := by unfold ED; rw [HR5.out.2.2.1]
     exact ⟨HKP.out.trans (hfin.kp.weak (Nat.zero_le _) (fun k hk => by unfold KQ at hk; unfold KT; omega)), ⟨HR5.out.2.2.2, Nat.le_trans hX8 hfin.kp.size, hmd, by rw [hcur]; exact hrd, Am HBX.out.1 hfin.kp (.inr (by unfold KT; omega)), Am HBX.out.2.1 hfin.kp (.inr (by unfold KT; omega)), hfin.kp.heap HBX.out.2.2.1 (.inr (.inl (by unfold KT; omega))), Am HBX.out.2.2.2 hfin.kp (.inr (by unfold KT; omega)), _, _, _, by rw [HR5.out.2.2.1]; dsimp only; rw [HKX.out]; exact hfin.base⟩⟩
   ·go_simp
    have hb4 : Below X0.heap.size X0 (X0.alloc (.cells #[.int .i64 tk, .string tnm, .int .i64 xk, .int .i64 xn, .string xs, .slice KA0 kl kc, .slice TA tl tc] 30)) := (Bq _ X0).alloc Nr _
    replace HKD := hid (HKD.out.below hb4)
    replace HTR := hid (HTR.out.below hb4)
    replace hP := Aa hP hb4
    replace hQ := Aa hQ hb4
    have hZ8 := Wn X0 (.cells #[.int .i64 tk, .string tnm, .int .i64 xk, .int .i64 xn, .string xs, .slice KA0 kl kc, .slice TA tl tc] 30)
    have hq8 : w5.heap.size + 1 + 1 <= X0.heap.size := hsX
    try (replace hZ3 := Aa hZ3 hb4)
    have hszz := Nat.le_trans hsX hb4.size
    have hs := ES HKD.out hP hQ
    refine hK.out _ _ ⟨fun _ => hs.1, fun _ => hs.2.1, fun _ => hs.2.2.1, fun _ => hs.2.2.2⟩ (fun hS => ?_)
    clear hK K hb4 hsX
    try simp only [gS]
    first | (generalize hgen4 : X0.alloc (.cells #[.int .i64 tk, .string tnm, .int .i64 xk, .int .i64 xn, .string xs, .slice KA0 kl kc, .slice TA tl tc] 30) = Y4 at hS HKD HTR hP hQ hZ3 hZ8 hszz hs |-) | (generalize hgen4 : X0.alloc (.cells #[.int .i64 tk, .string tnm, .int .i64 xk, .int .i64 xn, .string xs, .slice KA0 kl kc, .slice TA tl tc] 30) = Y4 at hS HKD HTR hP hQ hZ8 hszz hs |-)
    have hsX := hszz
    clear hszz hgen4
    refine Aj (rs := [3]) (by kernel_rfl) (by simp) (Ad.cons rfl (by rfl) (fun K hK => ?_) Ad.nil)
    go_simp
    have hb5 : Below Y4.heap.size Y4 (Y4.alloc (.cells #[.int .i64 kx.kind, .int .i64 kx.num, .string kx.str] 26)) := (Bq _ Y4).alloc Nr _
    replace HKD := hid (HKD.out.below hb5)
    replace HTR := hid (HTR.out.below hb5)
    replace hP := Aa hP hb5
    replace hQ := Aa hQ hb5
    have hZ3 := Wn Y4 (.cells #[.int .i64 kx.kind, .int .i64 kx.num, .string kx.str] 26)
    have hq3 : w5.heap.size + 1 + 1 <= Y4.heap.size := hsX
    try (replace hZ8 := Aa hZ8 hb5)
    have hszz := Nat.le_trans hsX hb5.size
    have hs := ES HKD.out hP hQ
    refine hK.out _ _ ⟨fun _ => hs.1, fun _ => hs.2.1, fun _ => hs.2.2.1, fun _ => hs.2.2.2⟩ (fun hS => ?_)
    clear hK K hb5 hsX
    try simp only [gS]
    first | (generalize hgen5 : Y4.alloc (.cells #[.int .i64 kx.kind, .int .i64 kx.num, .string kx.str] 26) = Y5 at hS HKD HTR hP hQ hZ3 hZ8 hszz hs |-) | (generalize hgen5 : Y4.alloc (.cells #[.int .i64 kx.kind, .int .i64 kx.num, .string kx.str] 26) = Y5 at hS HKD HTR hP hQ hZ3 hszz hs |-)
    have hsX := hszz
    clear hszz hgen5
    refine Aj (rs := [4]) (by kernel_rfl) (by simp) (Ad.cons rfl (by rfl) (fun K hK => ?_) Ad.nil)
    refine wp_append_lies _ (.tmp 34) (.tmp 36) 27 (by rfl) (N + 8) 26 i3 (.agg #[.int .i64 0, .int .i64 0, .string ⟨#[]⟩]) 3 32 (by kernel_rfl) hi3 hy0 hy1 hy2 (by rfl) (by decide) (.slice A5 n3 cap5) n3 (kss.flatMap A6) (by rfl) (hn3 ▸ HKD.out.ko) ⟨Y4.heap.size, 0, none⟩ 1 1 (A6 kx) (by rfl) (by rfl) (World.news_of_block hZ3) (Hb kx) (by decide) (by unfold maxLen; omega) (by omega) (by omega) _ rfl ?_
    intro g5 gc5 w6 hown5 hgrow5 hat5 hlt5
    have hk5 := HKD.out.growK kx (by omega) (by omega) (fun k hk => hk.2.1) (by omega) rfl (by rw [hn3]; exact hown5) hgrow5 hat5
    rw [hn3] at hk5
    have hz5 := hgrow5.size
    replace HTR := hid (As (S := fun q => N + 8 <= q /\ q < w5.heap.size /\ DU (N + 8) (.slice A5 n3 cap5) (.slice A7 n7 cap7) q) ⟨hgrow5.size, fun q o x hb hc => (hgrow5.cell_far ⟨q, o, none⟩ (AS hc) (fun e => hb.2.2.2.1 e.symm)).trans hc⟩ _ _ HTR.out)
    replace hP := (hgrow5.block _ (Gl hP) (fun e => by have := ne5 _ e.symm; omega)).trans hP
    replace hQ := (hgrow5.block _ (Gl hQ) (fun e => by have := ne5 _ e.symm; omega)).trans hQ
    try (replace hZ8 := (hgrow5.block _ (Gl hZ8) (fun e => by have := ne5 _ e.symm; omega)).trans hZ8)
    replace HKD := hid hk5
    have hs := ES HKD.out hP hQ
    have hg5 : (Value.slice A5 n3 cap5).ownBlock = some g5 \/ w5.heap.size <= g5 := by rcases hat5 with e | e; exact .inl e; right; omega
    have hsY : w5.heap.size + 1 + 1 <= w6.heap.size := by omega
    refine hK.out _ _ ⟨fun _ => hs.1, fun _ => hs.2.1, fun _ => hs.2.2.1, fun _ => hs.2.2.2⟩ (fun hS => ?_)
    clear hK K hown5 hgrow5 hat5 hk5 hsX hz5 hZ3
    try simp only [gS]
    have hsX := hsY
    clear hsY
    refine wL 10 11 hS (fun hS => ?_); try simp only [gS]
    refine Aj (rs := [9]) (by kernel_rfl) (by simp) (Ad.cons rfl (by rfl) (fun K hK => ?_) Ad.nil)
    refine wp_append_lies _ (.tmp 39) (.tmp 41) 28 (by rfl) (N + 8) 30 i0 (.agg #[.int .i64 0, .string ⟨#[]⟩, .int .i64 0, .int .i64 0, .string ⟨#[]⟩, .slice none 0 0, .slice none 0 0]) 7 104 (by kernel_rfl) hi0 hz0 hz1 hz2 (by rfl) (by decide) (.slice A7 n7 cap7) n7 (tvs.flatMap Bf) (by rfl) (hn7 ▸ HKD.out.co) ⟨X0.heap.size, 0, none⟩ 1 1 [.int .i64 tk, .string tnm, .int .i64 xk, .int .i64 xn, .string xs, .slice KA0 kl kc, .slice TA tl tc] (by rfl) (by rfl) (World.news_of_block hZ8) (Ep _ _ _ _ _ _ _ _ _ _ _) (by decide) (by unfold maxLen; omega) (by omega) (by omega) _ rfl ?_
    intro g7 gc7 w7 hown7 hgrow7 hat7 hlt7
    have hTD : Ao w6 (DU (N + 8) (.slice (some ⟨g5, 0, none⟩) (n3 + 1) gc5) (.slice A7 n7 cap7)) t (.agg #[.int .i64 tk, .string tnm, .int .i64 xk, .int .i64 xn, .string xs, .slice KA0 kl kc, .slice TA tl tc]) := Au (fun q _ hb => ⟨hb.1, fun e => by
      simp [Value.ownBlock] at e
      subst e
      rcases hg5 with e | e
      ·exact hb.2.2.2.1 e
      ·have := hb.2.1; omega, hb.2.2.2.2⟩) _ _ HTR.out
    have hk7 := HKD.out.growC hTD (by omega) (by omega) (fun k hk => hk.2.1) (by omega) rfl (by rw [hn7]; exact hown7) hgrow7 hat7
    rw [hn7] at hk7
    replace hP := (hgrow7.block _ (Gl hP) (fun e => by have := ne7 _ e.symm; omega)).trans hP
    replace hQ := (hgrow7.block _ (Gl hQ) (fun e => by have := ne7 _ e.symm; omega)).trans hQ
    replace HKD := hid hk7
    have hs := ES HKD.out hP hQ
    have hf5 : w7.frozen? ⟨N + 1 + 1 + 1 + 1, 5, none⟩ = false := by simp [World.frozen?, HKD.out.tb]
    have hf6 : w7.frozen? ⟨N + 1 + 1 + 1 + 1, 6, none⟩ = false := by simp [World.frozen?, HKD.out.tb]
    obtain ⟨hc5, hc6, _, _⟩ := id hs
    refine hK.out _ _ ⟨fun _ => hs.1, fun _ => hs.2.1, fun _ => hs.2.2.1, fun _ => hs.2.2.2⟩ (fun hS => ?_)
    clear hK K hown7 hgrow7 hat7 hk7 hTD hZ8
    try simp only [gS]
    refine Aj (rs := [11]) (by kernel_rfl) (by simp) (Ad.cons rfl (by rfl) (fun K hK => ?_) Ad.nil)
    go_simp
    refine hK.out _ _ ⟨fun hc => absurd hc (by decide), fun hc => absurd hc (by decide), fun hc => absurd hc (by decide), fun hc => absurd hc (by decide)⟩ (fun hS => ?_)
    clear hK K
    try simp only [gS]
    refine wL 12 13 hS (fun hS => ?_); try simp only [gS]
    refine Aj (rs := [13]) (by kernel_rfl) (by simp) (Ad.cons rfl (by rfl) (fun K hK => ?_) Ad.nil)
    go_simp
    refine hK.out _ _ ⟨fun hc => absurd hc (by decide), fun hc => absurd hc (by decide), fun hc => absurd hc (by decide), fun hc => absurd hc (by decide)⟩ (fun hS => ?_)
    clear hK K
    try simp only [gS]
    refine AU (by kernel_rfl) ?_ _
    have hfin := HKD.out.head (by omega) (by omega) (fun hk => hk.2.2 rfl) _ rfl
    have hrd := HR5.out.1.belowR (hfin.kp.below (Bq (R + 1) _) (by omega) (by have := HR5.out.1.rlt; omega))
    have hmd := HR5.out.2.1.keeps hfin.kp hN
    have hcur : ED d m es (pre ++ [(⟨no, col, l2⟩, (A, ca))]) = rest := by unfold ED; rw [HR5.out.2.2.1]
    exact ⟨HKP.out.trans (hfin.kp.weak (Nat.zero_le _) (fun k hk => by unfold KQ at hk; unfold KT; omega)), ⟨HR5.out.2.2.2, Nat.le_trans hX8 hfin.kp.size, hmd, by rw [hcur]; exact hrd, Am HBX.out.1 hfin.kp (.inr (by unfold KT; omega)), Am HBX.out.2.1 hfin.kp (.inr (by unfold KT; omega)), hfin.kp.heap HBX.out.2.2.1 (.inr (.inl (by unfold KT; omega))), Am HBX.out.2.2.2 hfin.kp (.inr (by unfold KT; omega)), _, _, _, by rw [HR5.out.2.2.1]; dsimp only; rw [HKX.out]; exact hfin.base⟩⟩
 case done =>
  rintro D xs W hD hI hF hK
  have hsz := HL.out.sz
  have hfin := hI.gs.fin hF
  obtain ⟨kv0, vk0, tvs, hk1⟩ := hI.ks
  obtain ⟨A7, cap7, rfl, _⟩ := AE hk1.co
  obtain ⟨A5, cap5, rfl, _⟩ := AE hk1.ko
  have htr := hk1.tree
  have hE := fun wx hx => MC R b (ED d m es xs) col wx hx
  have hrd := hI.rd
  have hmd := hI.md
  have hrt := hI.rt
  have hre := hI.re
  obtain ⟨cu, hcu⟩ : ∃ z, ED d m es xs = z := ⟨_, rfl⟩
  obtain ⟨ac, hac⟩ : ∃ z, (Gm d m es xs).2.2.2 = z := ⟨_, rfl⟩
  obtain ⟨kz, hkz⟩ : ∃ z, (Gm d m es xs).2.2.1 = z := ⟨_, rfl⟩
  obtain ⟨q, hq⟩ : ∃ z, Li col cu = z := ⟨_, rfl⟩
  rw [hcu, hac, hkz, hq] at hfin
  rw [hcu] at hE hrd
  rw [hq] at hE
  rw [hac, hkz] at htr
  obtain ⟨n7, hn7⟩ : ∃ n, tvs.length = n := ⟨_, rfl⟩
  have htb := hk1.tb
  rw [hkz] at htb
  obtain ⟨n5, hn5⟩ : ∃ n, kz.length = n := ⟨_, rfl⟩
  rw [hn7, hn5] at htr htb
  have HH := hid (Ai hrd (Ai hmd (Ai hrt (Ai hre (Ai htr hfin)))))
  have hSS := hid (fun (X : World) (hT : Af (fun k => k = N + 1 + 1 \/ k = N + 1 + 1 + 1) N W X) => Ai (Ah hI.b0 hT (by omega)).cell (by obtain ⟨t0, t1, t2, t3, t4, t5, t6, _⟩ := Ay (hT.heap htb (by omega) rfl); exact Ai t0 (Ai t1 (Ai t2 (Ai t3 (Ai t4 (Ai t5 t6)))))))
  have HK := hid hK
  clear hfin hk1 htr hrd hmd hrt hre htb hI hF hcu hac hkz hq hn7 hn5 h HR HS0 hC
  have hd4 : Af (fun k => k = N + 1 + 1 \/ k = N + 1 + 1 + 1) N W W.drew := Af.of_below (Bq _ _).drew
  cases q with
  | none =>
   unfold Lp at hE
   dsimp only at hE
   go_wp2
   refine wp_region_noPanic ?_
   refine wp_region_held_drew (S := (fun w' => w'.cell? ⟨N, 0, none⟩ = some (.pointer (some ⟨R, 0, none⟩)) /\ w'.cell? ⟨N + 1 + 1 + 1 + 1, 0, none⟩ = some (.int .i64 2) /\ w'.cell? ⟨N + 1 + 1 + 1 + 1, 1, none⟩ = some (.string ⟨#[]⟩) /\ w'.cell? ⟨N + 1 + 1 + 1 + 1, 2, none⟩ = some (.int .i64 0) /\ w'.cell? ⟨N + 1 + 1 + 1 + 1, 3, none⟩ = some (.int .i64 0) /\ w'.cell? ⟨N + 1 + 1 + 1 + 1, 4, none⟩ = some (.string ⟨#[]⟩) /\ w'.cell? ⟨N + 1 + 1 + 1 + 1, 5, none⟩ = some (.slice A5 n5 cap5) /\ w'.cell? ⟨N + 1 + 1 + 1 + 1, 6, none⟩ = some (.slice A7 n7 cap7))) (by kernel_rfl) (hSS.out _ hd4) (fun hHeld => ?_)
   refine wI 0 hHeld ?_; try simp only [gS]
   refine wI 1 hHeld ?_; try simp only [gS]
   refine wI 2 hHeld ?_; try simp only [gS]
   refine wB 3 rfl (fun K hK => ?_)
   go_simp
   refine (hE _ (HH.out.1.below (Bq _ _).drew)).mono ?_
   rintro e w5 ⟨rfl, hb5⟩
   have hT5 := hd4.trans (Af.of_below hb5)
   have hb5' := ((Bq W.heap.size W).drew).trans hb5
   have hrt5 := Aa HH.out.2.2.1 hb5'
   have hre5 : Boxed w5 (N + 1 + 1 + 1) 51 .nilIface := Aa HH.out.2.2.2.1 hb5'
   unfold zT at hrt5
   refine hK.out _ _ (hSS.out _ hT5) (fun hHeld2 => ?_)
   clear hK K hHeld
   have hHeld := hHeld2; clear hHeld2
   try simp only [gS]
   refine wB 4 rfl (fun K hK => ?_)
   refine Bk (by rfl) _ _ _ (by rfl) (N + 1 + 1) #[.int .i64 2, .string ⟨#[]⟩, .int .i64 0, .int .i64 0, .string ⟨#[]⟩, .slice A5 n5 cap5, .slice A7 n7 cap7] (by rfl) (by rfl) _ _ hrt5 (by kernel_rfl) (by rfl) (by simp [Value.oneCell']) ?_
   refine hK.out _ _ (hSS.out _ (hT5.trans (Af.setRow _ _ _ (.inl rfl)))) (fun hHeld2 => ?_)
   clear hK K hHeld
   have hHeld := hHeld2; clear hHeld2
   try simp only [gS]
   have hre6 : Boxed (w5.setRow (N + 1 + 1) #[.int .i64 2, .string ⟨#[]⟩, .int .i64 0, .int .i64 0, .string ⟨#[]⟩, .slice A5 n5 cap5, .slice A7 n7 cap7]) (N + 1 + 1 + 1) 51 .nilIface := (setRow_other _ _ _ _ (by omega)).trans hre5
   have hr6c := hre6.cell
   have hr6f := hre6.frozen
   refine wB 5 rfl (fun K hK => ?_)
   go_simp
   refine hK.out _ _ (hSS.out _ (hT5.trans ((Af.setRow _ _ _ (.inl rfl)).trans (Af.setCell _ _ _ (.inr rfl))))) (fun hHeld2 => ?_)
   clear hK K hHeld
   have hHeld := hHeld2; clear hHeld2
   try simp only [gS]
   refine wpAnyH_done (by kernel_rfl) ?_ _
   refine NoPanic.normal ?_
   have hZt := (Bh (w5.setRow (N + 1 + 1) #[.int .i64 2, .string ⟨#[]⟩, .int .i64 0, .int .i64 0, .string ⟨#[]⟩, .slice A5 n5 cap5, .slice A7 n7 cap7]) ⟨N + 1 + 1 + 1, 0, none⟩ (.nilIface) (N + 1 + 1) (by simp)).trans (setRow_heap _ _ _ #[.int .i64 2, .string ⟨#[]⟩, .int .i64 0, .int .i64 0, .string ⟨#[]⟩, .slice A5 n5 cap5, .slice A7 n7 cap7] _ _ hrt5)
   have hZe := hre6.set (.nilIface)
   have hKZ := (Bh (w5.setRow (N + 1 + 1) #[.int .i64 2, .string ⟨#[]⟩, .int .i64 0, .int .i64 0, .string ⟨#[]⟩, .slice A5 n5 cap5, .slice A7 n7 cap7]) ⟨N + 1 + 1 + 1, 0, none⟩ (.nilIface) D (by show D ≠ N + 1 + 1 + 1; omega)).trans ((setRow_other w5 (N + 1 + 1) D #[.int .i64 2, .string ⟨#[]⟩, .int .i64 0, .int .i64 0, .string ⟨#[]⟩, .slice A5 n5 cap5, .slice A7 n7 cap7] (by omega)).trans (Aa HK.out hb5'))
   have hTZ := hT5.trans ((Af.setRow w5 (N + 1 + 1) #[.int .i64 2, .string ⟨#[]⟩, .int .i64 0, .int .i64 0, .string ⟨#[]⟩, .slice A5 n5 cap5, .slice A7 n7 cap7] (.inl rfl)).trans (Af.setCell _ ⟨N + 1 + 1 + 1, 0, none⟩ (.nilIface) (.inr rfl)))
   have hTT := hTZ.trans (Af.putObj (.deferred none) hKZ (by omega) rfl)
   obtain ⟨Z, hZ⟩ : ∃ z, (w5.setRow (N + 1 + 1) #[.int .i64 2, .string ⟨#[]⟩, .int .i64 0, .int .i64 0, .string ⟨#[]⟩, .slice A5 n5 cap5, .slice A7 n7 cap7]).setCell ⟨N + 1 + 1 + 1, 0, none⟩ (.nilIface) = z := ⟨_, rfl⟩
   rw [hZ] at hZt hZe hKZ hTT |-
   have hZt2 : (Z.putObj D (.deferred none)).heap[N + 1 + 1]? = _ := (World.putObj_heap_other (by omega)).trans hZt
   have d1 := (Ar hZe hKZ (.deferred none)).cell
   obtain ⟨e0, e1, e2, e3, e4, e5, e6, _⟩ := Ay hZt2
   clear hHeld hb5 hT5 hb5' hrt5 hre5 hre6 hr6c hr6f hZt hZe hTZ hZ hZt2 hd4
   go_wp2
   refine ⟨by simp, .inl ⟨_, _, rfl, run_takeDeferred hKZ, ?_⟩⟩
   refine ⟨.tuple #[.agg #[.int .i64 2, .string ⟨#[]⟩, .int .i64 0, .int .i64 0, .string ⟨#[]⟩, .slice A5 n5 cap5, .slice A7 n7 cap7], .nilIface], by simp [results, Tryz.f70, go_sem, d1, e0, e1, e2, e3, e4, e5, e6], ?_⟩
   rw [show r0 = .ok (BJ kz ac) cu from HH.out.2.2.2.2.2]
   exact ⟨_, rfl, Au (fun k _ hk => by omega) _ _ (As (B4.of_turn (S := fun k => N + 8 <= k) hTT (fun k hk hk2 => by omega)) _ _ HH.out.2.2.2.2.1), HH.out.1.news hTT (by omega) (fun k hk => by omega), HH.out.2.1.news (hTT.mono (by omega)) (fun k hk => by omega)⟩
  | some z =>
   obtain ⟨no, er⟩ := z
   unfold Lp at hE
   unfold Ci at hE
   dsimp only at hE
   go_wp2
   refine wp_region_noPanic ?_
   refine wp_region_held_drew (S := (fun w' => w'.cell? ⟨N, 0, none⟩ = some (.pointer (some ⟨R, 0, none⟩)) /\ w'.cell? ⟨N + 1 + 1 + 1 + 1, 0, none⟩ = some (.int .i64 2) /\ w'.cell? ⟨N + 1 + 1 + 1 + 1, 1, none⟩ = some (.string ⟨#[]⟩) /\ w'.cell? ⟨N + 1 + 1 + 1 + 1, 2, none⟩ = some (.int .i64 0) /\ w'.cell? ⟨N + 1 + 1 + 1 + 1, 3, none⟩ = some (.int .i64 0) /\ w'.cell? ⟨N + 1 + 1 + 1 + 1, 4, none⟩ = some (.string ⟨#[]⟩) /\ w'.cell? ⟨N + 1 + 1 + 1 + 1, 5, none⟩ = some (.slice A5 n5 cap5) /\ w'.cell? ⟨N + 1 + 1 + 1 + 1, 6, none⟩ = some (.slice A7 n7 cap7))) (by kernel_rfl) (hSS.out _ hd4) (fun hHeld => ?_)
   refine wI 0 hHeld ?_; try simp only [gS]
   refine wI 1 hHeld ?_; try simp only [gS]
   refine wI 2 hHeld ?_; try simp only [gS]
   refine wB 3 rfl (fun K hK => ?_)
   go_simp
   refine (hE _ (HH.out.1.below (Bq _ _).drew)).mono ?_
   rintro e w5 ⟨rfl, hb5⟩
   have hT5 := hd4.trans (Af.of_below hb5)
   have hb5' := ((Bq W.heap.size W).drew).trans hb5
   have hrt5 := Aa HH.out.2.2.1 hb5'
   have hre5 : Boxed w5 (N + 1 + 1 + 1) 51 .nilIface := Aa HH.out.2.2.2.1 hb5'
   unfold zT at hrt5
   refine hK.out _ _ (hSS.out _ hT5) (fun hHeld2 => ?_)
   clear hK K hHeld
   have hHeld := hHeld2; clear hHeld2
   try simp only [gS]
   refine wB 4 rfl (fun K hK => ?_)
   refine Bk (by rfl) _ _ _ (by rfl) (N + 1 + 1) #[.int .i64 2, .string ⟨#[]⟩, .int .i64 0, .int .i64 0, .string ⟨#[]⟩, .slice A5 n5 cap5, .slice A7 n7 cap7] (by rfl) (by rfl) _ _ hrt5 (by kernel_rfl) (by rfl) (by simp [Value.oneCell']) ?_
   refine hK.out _ _ (hSS.out _ (hT5.trans (Af.setRow _ _ _ (.inl rfl)))) (fun hHeld2 => ?_)
   clear hK K hHeld
   have hHeld := hHeld2; clear hHeld2
   try simp only [gS]
   have hre6 : Boxed (w5.setRow (N + 1 + 1) #[.int .i64 2, .string ⟨#[]⟩, .int .i64 0, .int .i64 0, .string ⟨#[]⟩, .slice A5 n5 cap5, .slice A7 n7 cap7]) (N + 1 + 1 + 1) 51 .nilIface := (setRow_other _ _ _ _ (by omega)).trans hre5
   have hr6c := hre6.cell
   have hr6f := hre6.frozen
   refine wB 5 rfl (fun K hK => ?_)
   go_simp
   refine hK.out _ _ (hSS.out _ (hT5.trans ((Af.setRow _ _ _ (.inl rfl)).trans (Af.setCell _ _ _ (.inr rfl))))) (fun hHeld2 => ?_)
   clear hK K hHeld
   have hHeld := hHeld2; clear hHeld2
   try simp only [gS]
   refine wpAnyH_done (by kernel_rfl) ?_ _
   refine NoPanic.normal ?_
   have hZt := (Bh (w5.setRow (N + 1 + 1) #[.int .i64 2, .string ⟨#[]⟩, .int .i64 0, .int .i64 0, .string ⟨#[]⟩, .slice A5 n5 cap5, .slice A7 n7 cap7]) ⟨N + 1 + 1 + 1, 0, none⟩ (.iface 105 (.agg #[.int .i64 no, .int .i64 er])) (N + 1 + 1) (by simp)).trans (setRow_heap _ _ _ #[.int .i64 2, .string ⟨#[]⟩, .int .i64 0, .int .i64 0, .string ⟨#[]⟩, .slice A5 n5 cap5, .slice A7 n7 cap7] _ _ hrt5)
   have hZe := hre6.set (.iface 105 (.agg #[.int .i64 no, .int .i64 er]))
   have hKZ := (Bh (w5.setRow (N + 1 + 1) #[.int .i64 2, .string ⟨#[]⟩, .int .i64 0, .int .i64 0, .string ⟨#[]⟩, .slice A5 n5 cap5, .slice A7 n7 cap7]) ⟨N + 1 + 1 + 1, 0, none⟩ (.iface 105 (.agg #[.int .i64 no, .int .i64 er])) D (by show D ≠ N + 1 + 1 + 1; omega)).trans ((setRow_other w5 (N + 1 + 1) D #[.int .i64 2, .string ⟨#[]⟩, .int .i64 0, .int .i64 0, .string ⟨#[]⟩, .slice A5 n5 cap5, .slice A7 n7 cap7] (by omega)).trans (Aa HK.out hb5'))
   have hTZ := hT5.trans ((Af.setRow w5 (N + 1 + 1) #[.int .i64 2, .string ⟨#[]⟩, .int .i64 0, .int .i64 0, .string ⟨#[]⟩, .slice A5 n5 cap5, .slice A7 n7 cap7] (.inl rfl)).trans (Af.setCell _ ⟨N + 1 + 1 + 1, 0, none⟩ (.iface 105 (.agg #[.int .i64 no, .int .i64 er])) (.inr rfl)))
   have hTT := hTZ.trans (Af.putObj (.deferred none) hKZ (by omega) rfl)
   obtain ⟨Z, hZ⟩ : ∃ z, (w5.setRow (N + 1 + 1) #[.int .i64 2, .string ⟨#[]⟩, .int .i64 0, .int .i64 0, .string ⟨#[]⟩, .slice A5 n5 cap5, .slice A7 n7 cap7]).setCell ⟨N + 1 + 1 + 1, 0, none⟩ (.iface 105 (.agg #[.int .i64 no, .int .i64 er])) = z := ⟨_, rfl⟩
   rw [hZ] at hZt hZe hKZ hTT |-
   have hZt2 : (Z.putObj D (.deferred none)).heap[N + 1 + 1]? = _ := (World.putObj_heap_other (by omega)).trans hZt
   have d1 := (Ar hZe hKZ (.deferred none)).cell
   obtain ⟨e0, e1, e2, e3, e4, e5, e6, _⟩ := Ay hZt2
   clear hHeld hb5 hT5 hb5' hrt5 hre5 hre6 hr6c hr6f hZt hZe hTZ hZ hZt2 hd4
   go_wp2
   refine ⟨by simp, .inl ⟨_, _, rfl, run_takeDeferred hKZ, ?_⟩⟩
   refine ⟨.tuple #[.agg #[.int .i64 2, .string ⟨#[]⟩, .int .i64 0, .int .i64 0, .string ⟨#[]⟩, .slice A5 n5 cap5, .slice A7 n7 cap7], .iface 105 (.agg #[.int .i64 no, .int .i64 er])], by simp [results, Tryz.f70, go_sem, d1, e0, e1, e2, e3, e4, e5, e6], ?_⟩
   rw [show r0 = .bad no er from HH.out.2.2.2.2.2]
   exact ⟨_, rfl, ⟨_, _, _, _, _, _, _, _, _, _, _, rfl⟩, ⟨cu, HH.out.1.news hTT (by omega) (fun k hk => by omega)⟩, HH.out.2.1.news (hTT.mono (by omega)) (fun k hk => by omega)⟩
 case stop =>
  rintro D co pre W hD ⟨rfl, no, er, tv, c0, c1, c2, c3, c4, c5, c6, hr0, rfl, hform, hrt, hre, ⟨es5, hes⟩, hmd⟩ hK
  refine wpIn_wide.2 ?_
  have hsz := HL.out.sz
  have hne : ∀ k, k < D -> (W.putObj D (.deferred none)).heap[k]? = W.heap[k]? := fun k hk => World.putObj_heap_other (by omega)
  have hrt2 := (hne (N + 1 + 1) (by omega)).trans hrt
  have d1 := (Ar hre hK (.deferred none)).cell
  obtain ⟨e0, e1, e2, e3, e4, e5, e6, _⟩ := Ay hrt2
  have HE := hid hes
  have HM := hid hmd
  have HF := hid hform
  have HR0 := hid hr0.out
  clear hform hr0 hrt hrt2 hre hes hmd hne
  go_wp2
  refine ⟨by simp, .inl ⟨_, _, rfl, run_takeDeferred hK, ?_⟩⟩
  refine ⟨.tuple #[.agg #[c0, c1, c2, c3, c4, c5, c6], Ci no er], by simp [results, Tryz.f70, go_sem, d1, e0, e1, e2, e3, e4, e5, e6], ?_⟩
  rw [HR0.out]
  exact ⟨_, rfl, HF.out, ⟨es5, HE.out.turnF (m := D) (Af.putObj _ hK Nr rfl) (by omega)⟩, Af.trans HM.out (Af.putObj _ hK (by omega) rfl)⟩
end
end Go.Proofs.YtaogfdffgdglkaaGreatDoor
