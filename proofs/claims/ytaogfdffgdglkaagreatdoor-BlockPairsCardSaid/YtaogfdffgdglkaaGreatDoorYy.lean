/- What is proved: a part of the walk of the program and of its plain laws; no condition beside those that each theorem names. -/
import Derived.Test.YtaogfdffgdglkaaGreatDoorYa
import Derived.Test.YtaogfdffgdglkaaGreatDoorYw
import Derived.Test.YtaogfdffgdglkaaGreatDoorYx
import Derived.Deep.CutRange
namespace Go.Proofs.YtaogfdffgdglkaaGreatDoor
open Go Go.RowKit Go.Lib
set_option linter.unusedSimpArgs false
set_option linter.unusedVariables false
section
set_option maxRecDepth 100000
set_option maxHeartbeats 4000000
def Un (N R : Nat) (v : Value) (ts : List AV) (r : PR) (w : World) (e : Ending) (w' : World) : Prop :=
 match r with
 | .ok x t rest => ∃ (q : Nat) (pv : Value), q <= ts.length /\ rest = AP (ts.drop q) /\ e = .returned (.iface 317 pv) /\ Gg w' (fun b => N <= b) x t pv /\ RF w' R v q /\ Ax R w w'
 | .bad er => e = .returned (CZ er) /\ Ax R w w'
theorem Sd (w : World) (S : Nat -> Prop) (x : Sc) : Gg w S x CL (.agg #[.int .i64 x.kind, .int .i64 x.num, .string x.str, .int .i64 0, .string ⟨#[]⟩, .int .i64 0, .int .i64 0, .string ⟨#[]⟩, .slice none 0 0, .slice none 0 0]) :=
 ⟨0, ⟨#[]⟩, CF, .slice none 0 0, .slice none 0 0, rfl, Ao.one w S CF⟩
theorem Gg.below {w w' : World} {S : Nat -> Prop} {x : Sc} {t : Tr} {pv : Value} (h : Gg w S x t pv) (hb : Below w.heap.size w w') : Gg w' S x t pv := by
 obtain ⟨k, nm, y, kv, cv, e, h⟩ := h
 exact ⟨k, nm, y, kv, cv, e, Ao.below h hb⟩
theorem SF (n R : Nat) (v : Value) (ts : List AV) (p d : Nat) (w : World) (hV : Jb n R v ts) (hx : Fx ts) (h : Rd w R v ts p) (hp : p <= ts.length) (hd : d <= 1000) (hn : 2 * (ts.length - p) + 1 <= n) :
  Calls Tryz.prog 204 #[.pointer (some ⟨R, 0, none⟩), .int .i64 d] w (Un w.heap.size R v ts (Ek n d (AP (ts.drop p))) w) := by
 have hpl := hx.len
 have hlt := h.rf.lt
 rcases Nat.lt_or_ge p ts.length with hlt' | hge
 case inr =>
  have hK := T7 R v ts p w h.tk hx.len (by omega) (by omega) h.rf
  rw [Iv (by omega)]
  obtain ⟨r, hr⟩ : ∃ r, Ek n d [] = r := ⟨_, rfl⟩
  rw [hr]
  have HV := hid hr
  clear hr
  go_enter Tryz.func204, Tryz.ntmps204
  go_wp2_with fail
  refine hK.mono ?_
  rintro e w1 ⟨rfl, hb1⟩
  have HB1 := hid hb1
  unfold Ia
  clear hb1 hK
  go_wp2
  go_ret
  rw [<- HV.out]
  exact ⟨rfl, Ax.of_below (HB1.out.trans (((Bq _ w1).alloc Nr _).mono HB1.out.size))⟩
 have hK := S7 R v ts p w h.tk hx.len hlt' h.rf h.tb.tabs (hx.str p hlt')
 have hP : Ek n d (AP (ts.drop p)) = if (B3 ⟨(ts.getD p ⟨0, [], 0⟩).kind, (ts.getD p ⟨0, [], 0⟩).str⟩).2 ≠ 0 then .bad (B3 ⟨(ts.getD p ⟨0, [], 0⟩).kind, (ts.getD p ⟨0, [], 0⟩).str⟩).2 else if hk (AP (ts.drop (p + 1))) ≠ 6 then .bad 91 else if 24 < d then .bad 73 else
   if hk (AP (ts.drop (p + 2))) = 7 \/ hk (AP (ts.drop (p + 2))) = 11 then .ok (B3 ⟨(ts.getD p ⟨0, [], 0⟩).kind, (ts.getD p ⟨0, [], 0⟩).str⟩).1 CL (AP (ts.drop (p + 2))) else match AZ n d (AP (ts.drop (p + 2))) with
   | .bad e => .bad e
   | .ok v rest => .ok (B3 ⟨(ts.getD p ⟨0, [], 0⟩).kind, (ts.getD p ⟨0, [], 0⟩).str⟩).1 v rest := by
  rw [LH hlt']
  simp only [Ek]
  rw [Fv]
  cases AZ n d (AP (ts.drop (p + 1 + 1))) <;> rfl
 rw [hP]
 rw [LM]
 obtain ⟨⟨⟨xk, xn, xs⟩, er⟩, hr⟩ : ∃ r, Fg ⟨(ts.getD p ⟨0, [], 0⟩).kind, (ts.getD p ⟨0, [], 0⟩).str⟩ = r := ⟨_, rfl⟩
 rw [hr] at hK |-
 clear hr hP
 by_cases her : er = 0
 case neg =>
  simp only [her, if_false, ne_eq, not_false_eq_true, if_true]
  obtain ⟨r, hr⟩ : ∃ r, PR.bad er = r := ⟨_, rfl⟩
  rw [hr]
  have HV := hid hr
  clear hr
  go_enter Tryz.func204, Tryz.ntmps204
  go_wp2_with fail
  refine hK.mono ?_
  rintro e w1 (⟨h0, _⟩ | ⟨_, rfl, hr1, hm1⟩)
  case inl => exact absurd h0 her
  unfold Ia
  have HM1 := hid hm1
  clear hr1 hm1 hK
  go_wp2
  go_ret
  rw [<- HV.out]
  exact ⟨rfl, HM1.out.alloc _⟩
 subst her
 simp only [if_true, ne_eq, not_true_eq_false, if_false]
 have e61 := CT ts (p + 1) (k := 6) (by decide)
 have hT := fun (w1 : World) (h1 : Rd w1 R v ts (p + 1)) => EH R v ts (p + 1) 6 w1 h1.tk hx.len (by omega) h1.rf
 have HR := hid h
 by_cases h6 : hk (AP (ts.drop (p + 1))) = 6
 case neg =>
  rw [decide_eq_false h6] at e61
  rw [e61] at hT
  simp only [h6, not_false_eq_true, if_true]
  obtain ⟨r, hr⟩ : ∃ r, PR.bad 91 = r := ⟨_, rfl⟩
  rw [hr]
  have HV := hid hr
  clear hr
  go_enter Tryz.func204, Tryz.ntmps204
  go_wp2_with fail
  refine hK.mono ?_
  rintro e w1 (⟨_, rfl, hr1, hm1⟩ | ⟨h0, _⟩)
  case inr => exact absurd rfl h0
  unfold Ia
  have hrd := (HR.out.mod hr1 hm1).alloc (.cells #[.int .i64 xk, .int .i64 xn, .string xs] 26)
  have hX := Wn w1 (.cells #[.int .i64 xk, .int .i64 xn, .string xs] 26)
  have HM1 := hid (hm1.alloc (.cells #[.int .i64 xk, .int .i64 xn, .string xs] 26))
  have HT1 := hid (hT _ hrd)
  have HRD1 := hid hrd
  have hz1 := hm1.size
  clear hr1 hm1 hK hT hrd
  go_wp2_with fail
  refine HT1.out.mono ?_
  rintro e w2 ⟨rfl, hr2, hm2⟩
  have HRD2 := hid (HRD1.out.mod hr2 hm2)
  have HM2 := hid (HM1.out.trans hm2)
  have hX2 := hm2.heap hX (by omega)
  clear hr2 hm2 HT1 hX
  have hN := BN 91 w2
  go_wp2_with fail
  refine hN.mono ?_
  rintro e w3 ⟨rfl, hw⟩
  subst hw
  unfold CZ
  clear hN
  go_wp2
  go_ret
  rw [<- HV.out]
  exact ⟨rfl, HM2.out⟩
 rw [decide_eq_true h6] at e61
 rw [e61] at hT
 have h6l := Hc e61
 simp only [h6, not_true_eq_false, if_false]
 by_cases h24 : 24 < d
 case pos =>
  simp only [if_pos h24]
  have hdi : decide ((24 : Int) < (d : Int)) = true := by simp; omega
  obtain ⟨r, hr⟩ : ∃ r, PR.bad 73 = r := ⟨_, rfl⟩
  rw [hr]
  have HV := hid hr
  clear hr
  go_enter Tryz.func204, Tryz.ntmps204
  go_wp2_with fail
  refine hK.mono ?_
  rintro e w1 (⟨_, rfl, hr1, hm1⟩ | ⟨h0, _⟩)
  case inr => exact absurd rfl h0
  unfold Ia
  have hrd := (HR.out.mod hr1 hm1).alloc (.cells #[.int .i64 xk, .int .i64 xn, .string xs] 26)
  have hX := Wn w1 (.cells #[.int .i64 xk, .int .i64 xn, .string xs] 26)
  have HM1 := hid (hm1.alloc (.cells #[.int .i64 xk, .int .i64 xn, .string xs] 26))
  have HT1 := hid (hT _ hrd)
  have HRD1 := hid hrd
  have hz1 := hm1.size
  clear hr1 hm1 hK hT hrd
  go_wp2_with fail
  refine HT1.out.mono ?_
  rintro e w2 ⟨rfl, hr2, hm2⟩
  have HRD2 := hid (HRD1.out.mod hr2 hm2)
  have HM2 := hid (HM1.out.trans hm2)
  have hX2 := hm2.heap hX (by omega)
  clear hr2 hm2 HT1 hX
  have hN := BN 73 w2
  go_wp2_with fail
  refine hN.mono ?_
  rintro e w3 ⟨rfl, hw⟩
  subst hw
  unfold CZ
  clear hN
  go_wp2
  go_ret
  rw [<- HV.out]
  exact ⟨rfl, HM2.out⟩
 simp only [if_neg h24]
 have hdi : decide ((24 : Int) < (d : Int)) = false := by simp; omega
 have hI := fun (N cap : Nat) (fz : Nat × Nat) (wx : World) (hN : wx.heap.size = N) (hr : Rd wx R v ts (p + 2)) => DV N R v ts (p + 2) [7, 11] 2 cap fz wx hN rfl hr.tk hx.len (by omega) (by omega) hr.rf
 rw [Pv _ _ (by decide) (by decide)] at hI
 by_cases h7 : hk (AP (ts.drop (p + 2))) = 7 \/ hk (AP (ts.drop (p + 2))) = 11
 case pos =>
  rw [decide_eq_true h7] at hI
  simp only [if_pos h7]
  obtain ⟨r, hr⟩ : ∃ r, PR.ok (⟨xk, xn, xs⟩ : Sc) CL (AP (ts.drop (p + 2))) = r := ⟨_, rfl⟩
  rw [hr]
  have HV := hid hr
  clear hr
  go_enter Tryz.func204, Tryz.ntmps204
  go_wp2_with fail
  refine hK.mono ?_
  rintro e w1 (⟨_, rfl, hr1, hm1⟩ | ⟨h0, _⟩)
  case inr => exact absurd rfl h0
  unfold Ia
  have hrd := (HR.out.mod hr1 hm1).alloc (.cells #[.int .i64 xk, .int .i64 xn, .string xs] 26)
  have hX := Wn w1 (.cells #[.int .i64 xk, .int .i64 xn, .string xs] 26)
  have HM1 := hid (hm1.alloc (.cells #[.int .i64 xk, .int .i64 xn, .string xs] 26))
  have HT1 := hid (hT _ hrd)
  have HRD1 := hid hrd
  have hz1 := hm1.size
  clear hr1 hm1 hK hT hrd
  go_wp2_with fail
  refine HT1.out.mono ?_
  rintro e w2 ⟨rfl, hr2, hm2⟩
  have HRD2 := hid (HRD1.out.mod hr2 hm2)
  have HM2 := hid (HM1.out.trans hm2)
  have hX2 := hm2.heap hX (by omega)
  clear hr2 hm2 HT1 hX
  go_wp2_with fail
  refine (hI w2.heap.size _ _ w2 rfl HRD2.out).mono ?_
  rintro e w3 ⟨rfl, hb3⟩
  have HRD3 := hid (HRD2.out.below hb3)
  have HM3 := hid (HM2.out.below hb3)
  have hX3 := Aa hX2 hb3
  obtain ⟨x0, x1, x2, _, _, _⟩ := Az hX3
  clear hI hb3 hX2
  go_wp2
  go_ret
  rw [<- HV.out]
  exact ⟨p + 2, _, by omega, rfl, rfl, Sd _ _ ⟨xk, xn, xs⟩, HRD3.out.rf, HM3.out⟩
 rw [decide_eq_false h7] at hI
 simp only [if_neg h7]
 have hVq := fun wx hr => hV d (p + 2) wx hr (by omega) hd (by omega)
 obtain ⟨l, hl⟩ : ∃ l, AP (ts.drop (p + 2)) = l := ⟨_, rfl⟩
 rw [hl] at hVq |-
 clear hl h7
 have hsv := RW
 have hsb := So
 cases hv : AZ n d l with
 | bad ev =>
  simp only
  rw [hv] at hVq
  obtain ⟨r, hr⟩ : ∃ r, PR.bad ev = r := ⟨_, rfl⟩
  rw [hr]
  have HV := hid hr
  clear hr
  go_enter Tryz.func204, Tryz.ntmps204
  go_wp2_with fail
  refine hK.mono ?_
  rintro e w1 (⟨_, rfl, hr1, hm1⟩ | ⟨h0, _⟩)
  case inr => exact absurd rfl h0
  unfold Ia
  have hrd := (HR.out.mod hr1 hm1).alloc (.cells #[.int .i64 xk, .int .i64 xn, .string xs] 26)
  have hX := Wn w1 (.cells #[.int .i64 xk, .int .i64 xn, .string xs] 26)
  have HM1 := hid (hm1.alloc (.cells #[.int .i64 xk, .int .i64 xn, .string xs] 26))
  have HT1 := hid (hT _ hrd)
  have HRD1 := hid hrd
  have hz1 := hm1.size
  clear hr1 hm1 hK hT hrd
  go_wp2_with fail
  refine HT1.out.mono ?_
  rintro e w2 ⟨rfl, hr2, hm2⟩
  have HRD2 := hid (HRD1.out.mod hr2 hm2)
  have HM2 := hid (HM1.out.trans hm2)
  have hX2 := hm2.heap hX (by omega)
  clear hr2 hm2 HT1 hX
  go_wp2_with fail
  refine (hI w2.heap.size _ _ w2 rfl HRD2.out).mono ?_
  rintro e w3 ⟨rfl, hb3⟩
  have HRD3 := hid (HRD2.out.below hb3)
  have HM3 := hid (HM2.out.below hb3)
  have hX3 := Aa hX2 hb3
  obtain ⟨x0, x1, x2, _, _, _⟩ := Az hX3
  clear hI hb3 hX2
  go_wp2_with fail
  refine (hVq w3 HRD3.out).mono ?_
  rintro e w4 ⟨rfl, hm4⟩
  have HM4 := hid hm4
  unfold CZ
  clear hVq hm4
  go_wp2
  go_ret
  rw [<- HV.out]
  exact ⟨rfl, HM3.out.trans HM4.out⟩
 | ok t rest =>
  simp only
  rw [hv] at hVq
  obtain ⟨r, hr⟩ : ∃ r, PR.ok (⟨xk, xn, xs⟩ : Sc) t rest = r := ⟨_, rfl⟩
  rw [hr]
  have HV := hid hr
  clear hr
  go_enter Tryz.func204, Tryz.ntmps204
  go_wp2_with fail
  refine hK.mono ?_
  rintro e w1 (⟨_, rfl, hr1, hm1⟩ | ⟨h0, _⟩)
  case inr => exact absurd rfl h0
  unfold Ia
  have hrd := (HR.out.mod hr1 hm1).alloc (.cells #[.int .i64 xk, .int .i64 xn, .string xs] 26)
  have hX := Wn w1 (.cells #[.int .i64 xk, .int .i64 xn, .string xs] 26)
  have HM1 := hid (hm1.alloc (.cells #[.int .i64 xk, .int .i64 xn, .string xs] 26))
  have HT1 := hid (hT _ hrd)
  have HRD1 := hid hrd
  have hz1 := hm1.size
  clear hr1 hm1 hK hT hrd
  go_wp2_with fail
  refine HT1.out.mono ?_
  rintro e w2 ⟨rfl, hr2, hm2⟩
  have HRD2 := hid (HRD1.out.mod hr2 hm2)
  have HM2 := hid (HM1.out.trans hm2)
  have hX2 := hm2.heap hX (by omega)
  clear hr2 hm2 HT1 hX
  go_wp2_with fail
  refine (hI w2.heap.size _ _ w2 rfl HRD2.out).mono ?_
  rintro e w3 ⟨rfl, hb3⟩
  have HRD3 := hid (HRD2.out.below hb3)
  have HM3 := hid (HM2.out.below hb3)
  have hX3 := Aa hX2 hb3
  obtain ⟨x0, x1, x2, _, _, _⟩ := Az hX3
  clear hI hb3 hX2
  go_wp2_with fail
  refine (hVq w3 HRD3.out).mono ?_
  rintro e w4 ⟨q, tv, hq, hrest, rfl, ht, hr4, hm4⟩
  have hX4 := hm4.heap hX3 (by omega)
  obtain ⟨y0, y1, y2, _, _, _⟩ := Az hX4
  obtain ⟨tk, tnm, yk, yn, ys, KA0, kl, kc, B, bl, bc, rfl⟩ := ht.form
  have HF := hid (Ai hq (Ai hrest (Ai hr4 (Ai hm4 ht))))
  have HB := hid ((Bq _ w4).alloc Nr (.cells #[.int .i64 tk, .string tnm, .int .i64 yk, .int .i64 yn, .string ys, .slice KA0 kl kc, .slice B bl bc] 308))
  replace y0 := Ab y0 HB.out
  replace y1 := Ab y1 HB.out
  replace y2 := Ab y2 HB.out
  clear hVq hm4 hr4 ht hq hrest hX3 x0 x1 x2
  go_wp2
  go_ret
  rw [<- HV.out]
  have hz := HM3.out.size
  exact ⟨q, _, HF.out.1, HF.out.2.1, rfl, ⟨tk, tnm, ⟨yk, yn, ys⟩, .slice KA0 kl kc, .slice B bl bc, rfl, (Au (fun b _ hb => by omega) _ _ HF.out.2.2.2.2).below HB.out⟩, HF.out.2.2.1.below HB.out, (HM3.out.trans HF.out.2.2.2.1).below HB.out⟩
def DU (B : Nat) (kv cv : Value) (b : Nat) : Prop := B <= b /\ kv.ownBlock ≠ some b /\ cv.ownBlock ≠ some b
structure KD (N T B : Nat) (K : Nat -> Prop) (c0 c1 c2 c3 c4 hk hc kv cv : Value) (keys : List Sc) (tvs : List Value) (trs : List Tr) (Wb W : World) : Prop where
 kp : Ag Av K N Wb W
 tb : W.heap[T]? = some (.cells #[c0, c1, c2, c3, c4, hk, hc] 30)
 ko : W.ownsRow B 26 3 kv keys.length (keys.flatMap A6)
 co : W.ownsRow B 30 7 cv tvs.length (tvs.flatMap Bf)
 tr : Ef W (DU B kv cv) tvs trs
theorem AE {X : World} {B n z : Nat} {e : TypeId} {v : Value} {xs : List Value} (h : X.ownsRow B e z v n xs) : ∃ A cap, v = .slice A n cap /\ ∀ k, v.ownBlock = some k -> B <= k /\ k < X.heap.size /\ ∃ cur, X.heap[k]? = some (.cells cur e (0, 0)) := by
 rcases h.2 with ⟨rfl, rfl⟩ | ⟨g, cap, cur, rfl, hb, hg, hr⟩
 ·exact ⟨none, 0, rfl, fun k hk => by simp [Value.ownBlock] at hk⟩
 ·refine ⟨some ⟨g, 0, none⟩, cap, rfl, fun k hk => ?_⟩
  simp [Value.ownBlock] at hk
  subst hk
  exact ⟨hb, (Gl hg), cur, hg⟩
theorem C4 {X Y : World} {B n z : Nat} {e : TypeId} {v : Value} {xs : List Value} (h : X.ownsRow B e z v n xs) (hk : ∀ k o, v.ownBlock = some k -> X.heap[k]? = some o -> Y.heap[k]? = some o) : Y.ownsRow B e z v n xs := by
 refine ⟨h.1, ?_⟩
 rcases h.2 with h0 | ⟨g, cap, cur, hv, hb, hg, hr⟩
 ·exact .inl h0
 ·exact .inr ⟨g, cap, cur, hv, hb, hk g _ (by rw [hv]; rfl) hg, hr⟩
theorem KD.below {N T B : Nat} {K : Nat -> Prop} {c0 c1 c2 c3 c4 hk hc kv cv : Value} {keys : List Sc} {tvs : List Value} {trs : List Tr} {Wb X Y : World} (h : KD N T B K c0 c1 c2 c3 c4 hk hc kv cv keys tvs trs Wb X) (hb : Below X.heap.size X Y) : KD N T B K c0 c1 c2 c3 c4 hk hc kv cv keys tvs trs Wb Y :=
 ⟨h.kp.trans (Ag.of_below hb), Aa h.tb hb, C4 h.ko (fun k o _ ho => Aa ho hb), C4 h.co (fun k o _ ho => Aa ho hb), Ef.imp (fun t tv ht => ht.below hb) _ _ h.tr⟩
theorem KD.base {N T B : Nat} {K : Nat -> Prop} {c0 c1 c2 c3 c4 hk hc kv cv : Value} {keys : List Sc} {tvs : List Value} {trs : List Tr} {Wb W : World} (h : KD N T B K c0 c1 c2 c3 c4 hk hc kv cv keys tvs trs Wb W) : KD N T B K c0 c1 c2 c3 c4 hk hc kv cv keys tvs trs W W := ⟨Ag.refl _ _ _ _, h.tb, h.ko, h.co, h.tr⟩
theorem KD.turn {N T B m R : Nat} {K : Nat -> Prop} {c0 c1 c2 c3 c4 hk hc kv cv : Value} {keys : List Sc} {tvs : List Value} {trs : List Tr} {Wb X Y : World} (h : KD N T B K c0 c1 c2 c3 c4 hk hc kv cv keys tvs trs Wb X) (ht : Af (fun k => k = R) m X Y) (hRT : R ≠ T) (hRB : R < B) : KD N T B K c0 c1 c2 c3 c4 hk hc kv cv keys tvs trs Y Y := by
 obtain ⟨_, _, _, ok⟩ := AE h.ko
 obtain ⟨_, _, _, oc⟩ := AE h.co
 refine ⟨Ag.refl _ _ _ _, ht.heap h.tb (Ne.symm hRT) rfl, C4 h.ko (fun k o hk ho => ?_), C4 h.co (fun k o hk ho => ?_), Ef.imp (fun t tv h0 => As (B4.of_turn ht (fun k hk hO => by have := hO.1; omega)) t tv h0) _ _ h.tr⟩
 ·obtain ⟨h1, _, cur, h3⟩ := ok k hk
  rw [h3] at ho; injection ho with ho; subst ho
  exact ht.heap h3 (by omega) rfl
 ·obtain ⟨h1, _, cur, h3⟩ := oc k hk
  rw [h3] at ho; injection ho with ho; subst ho
  exact ht.heap h3 (by omega) rfl
theorem KD.two {N T B : Nat} {K : Nat -> Prop} {c0 c1 c2 c3 c4 hk hc kv cv : Value} {keys : List Sc} {tvs : List Value} {trs : List Tr} {Wb X : World} (h : KD N T B K c0 c1 c2 c3 c4 hk hc kv cv keys tvs trs Wb X) (k : Nat) (h1 : kv.ownBlock = some k) (h2 : cv.ownBlock = some k) : False := by
 obtain ⟨_, _, _, ok⟩ := AE h.ko
 obtain ⟨_, _, _, oc⟩ := AE h.co
 obtain ⟨_, _, cur, h3⟩ := ok k h1
 obtain ⟨_, _, cur', h4⟩ := oc k h2
 rw [h3] at h4
 injection h4 with h4
 injection h4 with _ h4
 exact absurd h4 (by decide)
theorem KD.growK {N T B : Nat} {K : Nat -> Prop} {c0 c1 c2 c3 c4 hk hc kv cv : Value} {keys : List Sc} {tvs : List Value} {trs : List Tr} {Wb X w1 : World} {g cap H : Nat} (h : KD N T B K c0 c1 c2 c3 c4 hk hc kv cv keys tvs trs Wb X) (x : Sc) (hNB : N <= B) (hTB : T < B) (hK : ∀ k, K k -> k < B) (hBX : B <= X.heap.size) (hH : X.heap.size = H)
  (hown : w1.ownsRow B 26 3 (.slice (some ⟨g, 0, none⟩) (keys.length + 1) cap) (keys.length + 1) (keys.flatMap A6 ++ A6 x)) (hg : X.grownBy w1 kv.ownBlock) (hat : kv.ownBlock = some g \/ g = H) :
  KD N T B K c0 c1 c2 c3 c4 hk hc (.slice (some ⟨g, 0, none⟩) (keys.length + 1) cap) cv (keys ++ [x]) tvs trs Wb w1 := by
 obtain ⟨A, c, hv, hown0⟩ := AE h.ko
 obtain ⟨A', c', hv', hown1⟩ := AE h.co
 refine ⟨h.kp.trans (Ag.grown hg (fun k hk => ?_)), (hg.block T (by have := (Gl h.tb); omega) (fun e => ?_)).trans h.tb, ?_, C4 h.co (fun k o hk ho => (hg.block k (Gl ho) (fun e => h.two k e.symm hk)).trans ho), ?_⟩
 ·obtain ⟨h1, h2, cur, h3⟩ := hown0 k hk
  refine ⟨by omega, fun hc => by have := hK k hc; omega, fun o ho => ?_⟩
  rw [h3] at ho
  injection ho with ho
  rw [<- ho]; rfl
 ·have := hown0 T e.symm; omega
 ·rw [List.length_append, List.flatMap_append]
  simpa using hown
 ·refine Ef.imp (fun t tv ht => ?_) _ _ h.tr
  have ht2 : Ao X (fun b => DU B kv cv b /\ b < X.heap.size) t tv := Au (fun b hlt hb => ⟨hb, hlt⟩) t tv ht
  refine Au (fun b _ hb => ⟨hb.1.1, fun e => ?_, hb.1.2.2⟩) t tv (As (S := fun b => DU B kv cv b /\ b < X.heap.size) ⟨hg.size, fun b o x hb hc => (hg.cell_far ⟨b, o, none⟩ (AS hc) (fun e => hb.1.2.1 e.symm)).trans hc⟩ t tv ht2)
  simp [Value.ownBlock] at e
  subst e
  rcases hat with e | e
  ·exact hb.1.2.1 e
  ·omega
theorem KD.growC {N T B : Nat} {K : Nat -> Prop} {c0 c1 c2 c3 c4 hk hc kv cv : Value} {keys : List Sc} {tvs : List Value} {trs : List Tr} {Wb X w1 : World} {g cap H : Nat} (h : KD N T B K c0 c1 c2 c3 c4 hk hc kv cv keys tvs trs Wb X) {t : Tr} {tv : Value} (ht : Ao X (DU B kv cv) t tv) (hNB : N <= B) (hTB : T < B) (hK : ∀ k, K k -> k < B) (hBX : B <= X.heap.size) (hH : X.heap.size = H)
  (hown : w1.ownsRow B 30 7 (.slice (some ⟨g, 0, none⟩) (tvs.length + 1) cap) (tvs.length + 1) (tvs.flatMap Bf ++ Bf tv)) (hg : X.grownBy w1 cv.ownBlock) (hat : cv.ownBlock = some g \/ g = H) :
  KD N T B K c0 c1 c2 c3 c4 hk hc kv (.slice (some ⟨g, 0, none⟩) (tvs.length + 1) cap) keys (tvs ++ [tv]) (trs ++ [t]) Wb w1 := by
 obtain ⟨A, c, hv, hown0⟩ := AE h.co
 obtain ⟨A', c', hv', hown1⟩ := AE h.ko
 have hT : ∀ t tv, Ao X (DU B kv cv) t tv -> Ao w1 (DU B kv (.slice (some ⟨g, 0, none⟩) (tvs.length + 1) cap)) t tv := fun t tv ht => by
  have ht2 : Ao X (fun b => DU B kv cv b /\ b < X.heap.size) t tv := Au (fun b hlt hb => ⟨hb, hlt⟩) t tv ht
  refine Au (fun b _ hb => ⟨hb.1.1, hb.1.2.1, fun e => ?_⟩) t tv (As (S := fun b => DU B kv cv b /\ b < X.heap.size) ⟨hg.size, fun b o x hb hc => (hg.cell_far ⟨b, o, none⟩ (AS hc) (fun e => hb.1.2.2 e.symm)).trans hc⟩ t tv ht2)
  simp [Value.ownBlock] at e
  subst e
  rcases hat with e | e
  ·exact hb.1.2.2 e
  ·omega
 refine ⟨h.kp.trans (Ag.grown hg (fun k hk => ?_)), (hg.block T (by have := (Gl h.tb); omega) (fun e => ?_)).trans h.tb, C4 h.ko (fun k o hk ho => (hg.block k (Gl ho) (fun e => h.two k hk e.symm)).trans ho), ?_, Ef.snoc (hT t tv ht) _ _ (Ef.imp hT _ _ h.tr)⟩
 ·obtain ⟨h1, h2, cur, h3⟩ := hown0 k hk
  refine ⟨by omega, fun hc => by have := hK k hc; omega, fun o ho => ?_⟩
  rw [h3] at ho
  injection ho with ho
  rw [<- ho]; rfl
 ·have := hown0 T e.symm; omega
 ·rw [List.length_append, List.flatMap_append]
  simpa using hown
theorem KD.head {N T B : Nat} {K : Nat -> Prop} {c0 c1 c2 c3 c4 hk hc kv cv : Value} {keys : List Sc} {tvs : List Value} {trs : List Tr} {Wb W : World} (h : KD N T B K c0 c1 c2 c3 c4 hk hc kv cv keys tvs trs Wb W) (hNT : N <= T) (hTB : T < B) (hKT : ¬ K T) (Z : World) (hZ : Z = (W.setCell ⟨T, 5, none⟩ kv).setCell ⟨T, 6, none⟩ cv) :
  KD N T B K c0 c1 c2 c3 c4 kv cv kv cv keys tvs trs Wb Z := by
 subst hZ
 obtain ⟨A, c, hv, ok⟩ := AE h.ko
 obtain ⟨A', c', hv', oc⟩ := AE h.co
 have t1 := heap_setCell_same W T 5 _ _ kv h.tb
 have t2 := heap_setCell_same _ T 6 _ _ cv t1
 have hfar : ∀ k o, k ≠ T -> W.heap[k]? = some o -> ((W.setCell ⟨T, 5, none⟩ kv).setCell ⟨T, 6, none⟩ cv).heap[k]? = some o := fun k o hk ho =>
  (Bh _ ⟨T, 6, none⟩ cv k hk).trans ((Bh W ⟨T, 5, none⟩ kv k hk).trans ho)
 refine ⟨(h.kp.trans (Ag.setCell W ⟨T, 5, none⟩ kv hNT hKT)).trans (Ag.setCell _ ⟨T, 6, none⟩ cv hNT hKT), t2, C4 h.ko (fun k o hk ho => hfar k o (by have := (ok k hk).1; omega) ho), C4 h.co (fun k o hk ho => hfar k o (by have := (oc k hk).1; omega) ho),
  Ef.imp (fun t tv ht => As ⟨by simp, fun b o x hb hc => ?_⟩ t tv ht) _ _ h.tr⟩
 have hne : b ≠ T := by have := hb.1; omega
 exact (World.cell?_of_block (a := ⟨b, o, none⟩) ((Bh _ ⟨T, 6, none⟩ cv b hne).trans (Bh W ⟨T, 5, none⟩ kv b hne))).trans hc
theorem KD.tree {N T B : Nat} {K : Nat -> Prop} {k xk xn : Int} {nm xs : ByteArray} {kv cv : Value} {keys : List Sc} {tvs : List Value} {trs : List Tr} {Wb W : World} (h : KD N T B K (.int .i64 k) (.string nm) (.int .i64 xk) (.int .i64 xn) (.string xs) kv cv kv cv keys tvs trs Wb W) :
  Ao W (fun b => B <= b) (.mk k nm ⟨xk, xn, xs⟩ keys trs) (.agg #[.int .i64 k, .string nm, .int .i64 xk, .int .i64 xn, .string xs, kv, cv]) := by
 have ho : Ls W B kv keys := h.ko
 obtain ⟨A, c, hv, ok⟩ := AE h.ko
 refine KS.tree (N := N) (T := T) (B := B) (K := K) (Wb := Wb) (tvs := tvs) ⟨h.kp, h.tb, h.co, Ef.imp (fun t tv ht => Au (fun b _ hb => ⟨hb.1, hb.2.2⟩) t tv ht) _ _ h.tr⟩ ho.sl (fun b o l c hb _ => (ok b (by rw [hb]; rfl)).1)
def OG : It -> Sc
 | .par _ x _ => x
 | _ => CF
def Qd (n d : Nat) (ts : List AV) (r : FR) (pre : List It) (q : Nat) : Prop := q <= ts.length /\ pre.length <= q /\ ∃ m, m <= n /\ 2 * (ts.length - q) + 2 <= m /\ BK m d (AP (ts.drop q)) (pre.map OG) (pre.map N6) = r
def Rv (n d : Nat) (ts : List AV) (r : FR) (pre : List It) (x : It) (q : Nat) : Prop := (∃ pv k t, x = .par pv k t) /\ q <= ts.length /\ pre.length <= q /\ ∃ m, m <= n /\ 2 * (ts.length - q) <= m ∧
 (if hk (AP (ts.drop q)) = 7 then BK m d (AP (ts.drop (q + 1))) (pre.map OG ++ [OG x]) (pre.map N6 ++ [N6 x]) else if hk (AP (ts.drop q)) = 11 then .ok (BJ (pre.map OG ++ [OG x]) (pre.map N6 ++ [N6 x])) (AP (ts.drop (q + 1))) else .bad 91) = r
def UO (ts : List AV) (r : FR) (pre : List It) (q : Nat) : Prop := q <= ts.length /\ (if DT ts q [11] = true then .ok (BJ (pre.map OG) (pre.map N6)) (AP (ts.drop (q + 1))) else .bad 91) = r
theorem TH {n d : Nat} {ts : List AV} {r : FR} {pre : List It} {q : Nat} (h : Qd n d ts r pre q) (hk : DT ts q [11] = true) : UO ts r pre q := by
 obtain ⟨hq, hpq, m, hm, h2, h3⟩ := h
 obtain ⟨m', rfl⟩ : ∃ m', m = m' + 1 := ⟨m - 1, by omega⟩
 refine ⟨hq, ?_⟩
 rw [if_pos hk, <- h3, K7, <- Fv]
 rw [CT _ _ (by decide), decide_eq_true_eq] at hk
 rw [if_pos hk]
theorem TC {n d : Nat} {ts : List AV} {r : FR} {pre : List It} {q : Nat} (h : Qd n d ts r pre q) (hk : DT ts q [11] = false) :
  ∃ m, m < n /\ 2 * (ts.length - q) + 1 <= m /\ (∀ e, Ek m (d + 1) (AP (ts.drop q)) = .bad e -> r = .bad e) ∧
   (∀ pv x t q', q' <= ts.length -> Ek m (d + 1) (AP (ts.drop q)) = .ok x t (AP (ts.drop q')) -> q < q' /\ Rv n d ts r pre (.par pv x t) q') := by
 obtain ⟨hq, hpq, m, hm, h2, h3⟩ := h
 obtain ⟨m', rfl⟩ : ∃ m', m = m' + 1 := ⟨m - 1, by omega⟩
 rw [CT _ _ (by decide), decide_eq_false_iff_not] at hk
 rw [K7, if_neg hk] at h3
 refine ⟨m', by omega, by omega, fun e he => ?_, fun pv x t q' hq' he => ?_⟩
 ·rw [he] at h3; exact h3.symm
 ·have hl := Qq he
  rw [FA, FA] at hl
  rw [he] at h3
  simp only [Fv] at h3
  exact ⟨by omega, ⟨pv, x, t, rfl⟩, hq', by omega, m', by omega, by omega, h3⟩
theorem Vf {n d : Nat} {ts : List AV} {r : FR} {pre : List It} {x : It} {q : Nat} (h : Rv n d ts r pre x q) (hk : DT ts q [7] = true) : Qd n d ts r (pre ++ [x]) (q + 1) := by
 obtain ⟨_, hq, hpq, m, hm, h2, h3⟩ := h
 have hlt := Hc hk
 rw [CT _ _ (by decide), decide_eq_true_eq] at hk
 rw [if_pos hk] at h3
 exact ⟨by omega, by simp; omega, m, hm, by omega, by rw [List.map_append, List.map_append]; exact h3⟩
theorem U5 {n d : Nat} {ts : List AV} {r : FR} {pre : List It} {x : It} {q : Nat} (h : Rv n d ts r pre x q) (hk : DT ts q [7] = false) : UO ts r (pre ++ [x]) q := by
 obtain ⟨_, hq, hpq, m, hm, h2, h3⟩ := h
 rw [CT _ _ (by decide), decide_eq_false_iff_not] at hk
 rw [if_neg hk] at h3
 refine ⟨hq, ?_⟩
 rw [CT _ _ (by decide), List.map_append, List.map_append]
 simp only [decide_eq_true_eq]
 exact h3
theorem Q9 (m R : Nat) (v : Value) (ts : List AV) (b1 b2 d q : Nat) (w : World) (hV : Jb m R v ts) (hx : Fx ts) (h : Rd w R v ts q) (hq : q <= ts.length) (hd : d <= 24) (hm : 2 * (ts.length - q) + 1 <= m)
  (h1 : Boxed w b1 259 (.pointer (some ⟨R, 0, none⟩))) (h2 : Boxed w b2 3 (.int .i64 d)) :
  Calls Tryz.prog 203 #[.pointer (some ⟨b1, 0, none⟩), .pointer (some ⟨b2, 0, none⟩)] w (Un w.heap.size R v ts (Ek m (d + 1) (AP (ts.drop q))) w) := by
 have hv := SF m R v ts q (d + 1) w hV hx h hq (by omega) hm
 rw [show ((d + 1 : Nat) : Int) = (d : Int) + 1 by omega] at hv
 obtain ⟨r, hr⟩ : ∃ r, Ek m (d + 1) (AP (ts.drop q)) = r := ⟨_, rfl⟩
 rw [hr] at hv |-
 have c1 := h1.cell
 have c2 := h2.cell
 clear hr h h1 h2 hV
 go_enter Tryz.func203, Tryz.ntmps203
 go_wp2_with fail
 refine hv.mono ?_
 intro e w1 hP
 have HP := hid hP
 cases r with
 | ok x t rest =>
  obtain ⟨q', tv, h1, h2, rfl, h4, h5, h6⟩ := hP
  clear h1 h2 h4 h5 h6 hv
  go_wp2
  go_ret
  exact HP.out
 | bad er =>
  obtain ⟨rfl, h6⟩ := hP
  unfold CZ at HP |-
  clear h6 hv
  go_wp2
  go_ret
  exact HP.out
theorem Q5 (n R : Nat) (v : Value) (ts : List AV) (d N : Nat) (r : FR) (hV : ∀ m, m < n -> Jb m R v ts) (hx : Fx ts) (hd : d <= 24) (pre : List It) (q : Nat) (W : World) (hS : Qd n d ts r pre q) (hk : DT ts q [11] = false) (h : Rd W R v ts q)
  (hB : Boxed W N 259 (.pointer (some ⟨R, 0, none⟩)) /\ Boxed W (N + 1) 3 (.int .i64 d)) :
  Calls Tryz.prog 203 #[.pointer (some ⟨N, 0, none⟩), .pointer (some ⟨N + 1, 0, none⟩)] W (SE R v (fun x q' => q < q' /\ q' <= ts.length /\ Rv n d ts r pre x q') (TI r) W) := by
 obtain ⟨m, hm, h2, hb, ho⟩ := TC hS hk
 refine (Q9 m R v ts N (N + 1) d q W (hV m hm) hx h hS.1 hd h2 hB.1 hB.2).mono ?_
 intro e w1 hP
 cases hv : Ek m (d + 1) (AP (ts.drop q)) with
 | ok x t rest =>
  rw [hv] at hP
  obtain ⟨q', pv, hq', hrest, he, ht, hr, hmd⟩ := hP
  rw [hrest] at hv
  obtain ⟨h3, h4⟩ := ho pv x t q' hq' hv
  exact ⟨.par pv x t, he, ht, hmd, .inl ⟨rfl, q', ⟨h3, hq', h4⟩, hr⟩⟩
 | bad er =>
  rw [hv] at hP
  exact ⟨.bad er, hP.1, trivial, hP.2, .inr ⟨rfl, er, rfl, hb er hv⟩⟩
attribute [local go_sem] Oper.semAt_some CA B0
structure DI (w : World) (N R : Nat) (pre : List It) (W : World) : Prop where
 ok : ¬ MW pre
 sz : N + 7 <= W.heap.size
 md : Ax R w W
 b0 : Boxed W N 259 (.pointer (some ⟨R, 0, none⟩))
 res : Boxed W (N + 1 + 1) 265 .nilIface
 ks : ∃ kv cv tvs, KD N (N + 1 + 1 + 1) (N + 7) (KA N) (.int .i64 2) (.string ⟨#[]⟩) (.int .i64 0) (.int .i64 0) (.string ⟨#[]⟩) kv cv kv cv (pre.map OG) tvs (pre.map N6) W W
theorem Dy {N T B P : Nat} {K : Nat -> Prop} {c0 c1 c2 c3 c4 hk hc kv cv p0 p1 p2 p3 p4 p5 p6 p7 p8 p9 : Value} {keys : List Sc} {tvs : List Value} {trs : List Tr} {Wb X : World} (h : KD N T B K c0 c1 c2 c3 c4 hk hc kv cv keys tvs trs Wb X) (hP : X.heap[P]? = some (.cells #[p0, p1, p2, p3, p4, p5, p6, p7, p8, p9] 317)) :
  X.cell? ⟨T, 5, none⟩ = some hk /\ X.cell? ⟨T, 6, none⟩ = some hc /\ (X.cell? ⟨P, 0, none⟩ = some p0 /\ X.cell? ⟨P, 1, none⟩ = some p1 /\ X.cell? ⟨P, 2, none⟩ = some p2) ∧
   (X.cell? ⟨P, 3, none⟩ = some p3 /\ X.cell? ⟨P, 4, none⟩ = some p4 /\ X.cell? ⟨P, 5, none⟩ = some p5 /\ X.cell? ⟨P, 6, none⟩ = some p6 /\ X.cell? ⟨P, 7, none⟩ = some p7 /\ X.cell? ⟨P, 8, none⟩ = some p8 /\ X.cell? ⟨P, 9, none⟩ = some p9) := by
 simp [World.cell?, h.tb, hP]
theorem Hb (x : Sc) : ∀ u ∈ A6 x, u.oneCell' = true := by
 intro u hu
 simp only [A6, List.mem_cons, List.not_mem_nil, or_false] at hu
 rcases hu with h | h | h <;> (subst h; rfl)
theorem Ep (k : Int) (nm : ByteArray) (xk xn : Int) (xs : ByteArray) (KA : Option Addr) (kl kc : Nat) (A : Option Addr) (l c : Nat) : ∀ u ∈ [Value.int .i64 k, .string nm, .int .i64 xk, .int .i64 xn, .string xs, .slice KA kl kc, .slice A l c], u.oneCell' = true := by
 intro u hu
 simp only [List.mem_cons, List.not_mem_nil, or_false] at hu
 rcases hu with h | h | h | h | h | h | h <;> (subst h; rfl)
theorem DI.turn {w X Y : World} {N R m : Nat} {pre : List It} (h : DI w N R pre X) (hR : R < N) (hw : w.heap.size <= m) (ht : Af (fun k => k = R) m X Y) : DI w N R pre Y := by
 obtain ⟨kv, cv, tvs, hk⟩ := h.ks
 exact ⟨h.ok, Nat.le_trans h.sz ht.size, Af.trans h.md (ht.mono hw), Ah h.b0 ht (by omega), Ah h.res ht (by omega), kv, cv, tvs, hk.turn ht (by omega) (by omega)⟩
theorem S5 (n R : Nat) (v : Value) (ts : List AV) (p d : Nat) (w : World) (hV : ∀ m, m < n -> Jb m R v ts) (hx : Fx ts) (h : Rd w R v ts p) (hp : p < ts.length) (hd : d <= 24) (hn : 2 * (ts.length - (p + 1)) + 2 <= n) :
  Calls Tryz.prog 187 #[.pointer (some ⟨R, 0, none⟩), .int .i64 d] w (Cm w.heap.size R v ts (BK n d (AP (ts.drop (p + 1))) [] []) w) := by
 obtain ⟨r, hr⟩ : ∃ r, BK n d (AP (ts.drop (p + 1))) [] [] = r := ⟨_, rfl⟩
 rw [hr]
 have HS0 := hid (show Qd n d ts r [] (p + 1) from ⟨by omega, by simp, n, Nat.le_refl _, by omega, hr⟩)
 clear hr
 obtain ⟨r0, r1, f0, f1⟩ := (((h.alloc (.cells #[.pointer (some ⟨R, 0, none⟩)] 259)).alloc (.cells #[.int .i64 d] 3)).alloc (.cells #[.nilIface] 265)).rf.cells
 have hlt := h.rf.lt
 have hpl : p <= 1000000 := by have := hx.len; omega
 refine (callsIn_wide (n := 0)).1 ?_
 refine callsIn_of_wp_marks Tryz.func187 rfl trivial ?_ rfl
 refine wpIn_wide.2 ?_
 simp only [Tryz.ntmps187, List.size_toArray, List.length_cons, List.length_nil, Nat.reduceAdd, Nat.reduceSub, Array.replicate_succ, Array.replicate_zero, List.push_toArray, List.append_toArray, List.nil_append, List.cons_append]
 obtain ⟨N, hN⟩ : ∃ N, w.heap.size = N := ⟨_, rfl⟩
 go_wp2_with fail
 refine (KE R 11 203 #[.pointer (some ⟨N, 0, none⟩), .pointer (some ⟨N + 1, 0, none⟩)] _).mono ?_
 rintro e w1 ⟨rfl, hw1⟩
 have hL := IB h hN d 2 11 (.func (.func 203) #[] #[.pointer (some ⟨N, 0, none⟩), .pointer (some ⟨N + 1, 0, none⟩)]) w1 hw1
 have hsz : (((((w.alloc (.cells #[.pointer (some ⟨R, 0, none⟩)] 259)).alloc (.cells #[.int .i64 d] 3)).alloc (.cells #[.nilIface] 265)).setCell ⟨R, 1, none⟩ (.int .i64 ((p : Int) + 1))).alloc
   (.cells #[.int .i64 2, .string ⟨#[]⟩, .int .i64 0, .int .i64 0, .string ⟨#[]⟩, .slice none 0 0, .slice none 0 0] 30)).heap.size = N + 1 + 1 + 1 + 1 := by simp [hN]
 rw [hsz]
 clear hw1 hsz r0 r1 f0 f1
 have HL := hid hL
 clear hL
 have HR := hid h
 have hNw : w.heap.size <= N := by omega
 go_wp2
 refine (wpIn_wide (n := 0)).1 ?_
 refine Ft (gf := 215) (lb := #[.pointer (some ⟨N + 1 + 1 + 1 + 1, 0, none⟩), .pointer (some ⟨N + 1 + 1 + 1 + 1 + 1, 0, none⟩), .pointer (some ⟨N + 1 + 1 + 1 + 1 + 1 + 1, 0, none⟩)]) rfl (enters_of Tryz.func215 (by kernel_rfl) rfl)
  (Iz R v ts (N + 1 + 1 + 1 + 1) (N + 1 + 1 + 1 + 1 + 1) (N + 1 + 1 + 1 + 1 + 1 + 1) (KB N) w p 11 (by decide) 203 #[.pointer (some ⟨N, 0, none⟩), .pointer (some ⟨N + 1, 0, none⟩)]
   (enters_of Tryz.func203 (by kernel_rfl) rfl) hx h
   (fun W => Boxed W N 259 (.pointer (some ⟨R, 0, none⟩)) /\ Boxed W (N + 1) 3 (.int .i64 d)) (fun X Y hb hm => ⟨Ah hb.1 hm (by omega), Ah hb.2 hm (by omega)⟩)
   (fun X Y hb hk => ⟨Am hb.1 hk (.inr ⟨by omega, by omega, by omega, by omega⟩), Am hb.2 hk (.inr ⟨by omega, by omega, by omega, by omega⟩)⟩) (by omega) (by omega) (by omega) ⟨by omega, by omega, by omega, by omega⟩ ⟨by omega, by omega, by omega, by omega⟩ ⟨by omega, by omega, by omega, by omega⟩
   (Qd n d ts r) (Rv n d ts r) (UO ts r) (TI r) (p + 1) HS0.out (fun pre q hs => hs.1) (fun pre q hs hk => TH hs hk) (fun pre q W hs hk hrd hb => Q5 n R v ts d N r hV hx hd pre q W hs hk hrd hb)
   (fun pre x q ht hk => Vf ht hk) (fun pre x q ht hk => U5 ht hk))
  (fun Y hY _ => ⟨HL.out.md.below hY, HL.out.rf.below hY, Ac HL.out.b4 hY, Ac HL.out.b5 hY, Ac HL.out.b6 hY, Ac HL.out.b0 hY, Ac HL.out.b1 hY⟩)
  (fun k hk => by have := HL.out.sz; omega) (fun hk => by have := HL.out.sz; have := hk.2.1; omega) (fun hk => by have := HL.out.sz; have := hk.2.1; omega) (by have := HL.out.sz; omega) (fun x => rfl)
  (DI w N R) (LX w N R r) (fun s X Y hf ht => by obtain ⟨q, h1, h2⟩ := hf; exact ⟨q, h1, ht.heap h2 (fun f => f) rfl⟩)
  (fun s X Y hs ht => hs.turn (by omega) (by have := HL.out.sz; omega) ht) (fun c s X Y hs ht => hs.turn (by omega) (by have := HL.out.sz; omega) ht) (fun s X hb hs => hs.ok hb)
  ⟨(fun hh => by obtain ⟨x, hx, _⟩ := hh; cases hx), by have := HL.out.sz; omega, HL.out.md, HL.out.b0, HL.out.b2, .slice none 0 0, .slice none 0 0, [], ⟨Ag.refl _ _ _ _, HL.out.tb, ⟨rfl, .inl ⟨rfl, rfl⟩⟩, ⟨rfl, .inl ⟨rfl, rfl⟩⟩, trivial⟩⟩ ?round ?done ?stop
 case round =>
  rintro l pre x W0 W hl hI hturn hadm
  have hsz := HL.out.sz
  have hIW := hI.turn (by omega) (by omega) hturn
  have hsm1 := L3
  have hsm2 := La
  cases x with
  | val tv t =>
   obtain ⟨_, ⟨_, q', ⟨⟨_, _, _, hc⟩, _⟩⟩ | ⟨hc, _⟩⟩ := hadm
   ·cases hc
   ·cases hc
  | bad er =>
   obtain ⟨_, ⟨hc, _⟩ | ⟨_, er', hc, hrb⟩⟩ := hadm
   ·cases hc
   ·injection hc with hc
    subst hc
    have HRB := hid hrb
    clear hrb hI hturn
    unfold Mt LO CZ
    gi_wp2
    refine ⟨Ag.refl _ _ _ _, fun Wb ht _ => ?_⟩
    have hIb := hIW.turn (by omega) (by omega) ht
    have b2 := hIb.res.cell
    have f2 := hIb.res.frozen
    have HIB := hid hIb
    have hbz : N + 1 + 1 < Wb.heap.size := by have := hIb.sz; omega
    clear hIW hIb ht
    gi_wp2
    exact ⟨(Ag.setCell Wb ⟨N + 1 + 1, 0, none⟩ _ (by simp; omega) (fun hk => hk.2.2.1 rfl)).trans (Ag.alloc _ _), rfl, er, HRB, (HIB.out.res.set _).alloc _, (HIB.out.md.put (a := ⟨N + 1 + 1, 0, none⟩) (by simp; omega) _).alloc _⟩
  | par pv kx t =>
   have hgood : ¬ MW (pre ++ [.par pv kx t]) := fun hb => by
    obtain ⟨y, hy, hyb⟩ := hb
    rcases List.mem_append.1 hy with hy | hy
    ·exact hI.ok ⟨y, hy, hyb⟩
    ·rw [List.mem_singleton.1 hy] at hyb; cases hyb
   obtain ⟨pk, pnm, py, pkv, pcv, rfl, ht0⟩ : Gg W (fun b => W0.heap.size <= b) kx t pv := hadm.1
   obtain ⟨kv0, vk0, tvs, hks0⟩ := hI.ks
   have hksW := hks0.turn hturn (by omega) (by omega)
   obtain ⟨A, cap, rfl, hob⟩ := AE hks0.co
   obtain ⟨A5, cap5, rfl, hob5⟩ := AE hks0.ko
   have ht1 : Ao W (fun b => N + 7 <= b /\ b < W.heap.size /\ DU (N + 7) (.slice A5 (pre.map OG).length cap5) (.slice A tvs.length cap) b) t _ := Au (fun b hb hb2 => ⟨by have := hI.sz; omega, hb, by have := hI.sz; omega, fun e => by have := (hob5 b e).2.1; omega, fun e => by have := (hob b e).2.1; omega⟩) t _ ht0
   obtain ⟨tk, tnm, xk, xn, xs, KA0, kl, kc, TA, tl, tc, hform⟩ := ht1.form
   injection hform with hform
   simp at hform
   obtain ⟨rfl, rfl, e1, e2, e3, rfl, rfl⟩ := hform
   rw [e1, e2, e3] at ht1 hgood |-
   have hlen : tvs.length <= 1000000 /\ (pre.map OG).length <= 1000000 := by
    rcases hadm.2 with ⟨_, q', _, hq', hpq, _⟩ | ⟨hc, _⟩
    ·have := hx.len; have := Ef.len _ _ hks0.tr; rw [List.length_map] at this; rw [List.length_map]; omega
    ·cases hc
   clear hturn hadm ht0 hks0 hI hob hob5 e1 e2 e3
   have HG := hid hgood
   clear hgood
   unfold Mt LO
   gi_wp2
   refine ⟨Ag.refl _ _ _ _, fun Wb ht _ => ?_⟩
   have hIb := hIW.turn (by omega) (by omega) ht
   have hks := hksW.turn ht (by omega) (by omega)
   have ht2 := As (B4.of_turn ht (fun k hk hO => by have := hO.1; omega)) _ _ ht1
   have HIB := hid hIb
   have hbT : Below Wb.heap.size Wb ((Wb.alloc (.cells #[.nilIface] 268)).alloc (.cells #[.int .i64 kx.kind, .int .i64 kx.num, .string kx.str, .int .i64 pk, .string pnm, .int .i64 xk, .int .i64 xn, .string xs, .slice KA0 kl kc, .slice TA tl tc] 317)) := ((Bq _ Wb).alloc Nr _).alloc (by simp) _
   have HKS := hid (hks.below hbT)
   have HT := hid (ht2.below hbT)
   have hbz : N + 7 <= Wb.heap.size := hIb.sz
   have hWz : W.heap.size <= Wb.heap.size := ht.size
   clear hIW hIb ht hksW hks ht1 ht2 hbT
   obtain ⟨n7, hn7⟩ : ∃ n, tvs.length = n := ⟨_, rfl⟩
   obtain ⟨n3, hn3⟩ : ∃ n, (pre.map OG).length = n := ⟨_, rfl⟩
   have hsp := TU
   have hsm3 := OS
   rw [hn3] at HKS HT hlen
   rw [hn7] at HT HKS hlen
   obtain ⟨i0, hi0, hz0, hz1, hz2⟩ := Gt
   obtain ⟨i3, hi3, hy0, hy1, hy2⟩ := info_parts OT
   have hP : ((Wb.alloc (.cells #[.nilIface] 268)).alloc (.cells #[.int .i64 kx.kind, .int .i64 kx.num, .string kx.str, .int .i64 pk, .string pnm, .int .i64 xk, .int .i64 xn, .string xs, .slice KA0 kl kc, .slice TA tl tc] 317)).heap[Wb.heap.size + 1]? = some (.cells #[.int .i64 kx.kind, .int .i64 kx.num, .string kx.str, .int .i64 pk, .string pnm, .int .i64 xk, .int .i64 xn, .string xs, .slice KA0 kl kc, .slice TA tl tc] 317) := by have := Wn (Wb.alloc (.cells #[.nilIface] 268)) (.cells #[.int .i64 kx.kind, .int .i64 kx.num, .string kx.str, .int .i64 pk, .string pnm, .int .i64 xk, .int .i64 xn, .string xs, .slice KA0 kl kc, .slice TA tl tc] 317); rwa [World.size_alloc] at this
   have hs := Dy HKS.out hP
   have hsX : Wb.heap.size + 1 + 1 <= ((Wb.alloc (.cells #[.nilIface] 268)).alloc (.cells #[.int .i64 kx.kind, .int .i64 kx.num, .string kx.str, .int .i64 pk, .string pnm, .int .i64 xk, .int .i64 xn, .string xs, .slice KA0 kl kc, .slice TA tl tc] 317)).heap.size := by simp
   gi_wp2
   refine Dl (S := fun L w' => (L.getD 5 true = false -> w'.cell? ⟨N + 1 + 1 + 1, 5, none⟩ = some (.slice A5 n3 cap5)) /\ (L.getD 12 true = false -> w'.cell? ⟨N + 1 + 1 + 1, 6, none⟩ = some (.slice A n7 cap)) /\ (L.getD 4 true = false -> w'.cell? ⟨Wb.heap.size + 1, 0, none⟩ = some (.int .i64 kx.kind) /\ w'.cell? ⟨Wb.heap.size + 1, 1, none⟩ = some (.int .i64 kx.num) /\ w'.cell? ⟨Wb.heap.size + 1, 2, none⟩ = some (.string kx.str)) /\ (L.getD 11 true = false -> w'.cell? ⟨Wb.heap.size + 1, 3, none⟩ = some (.int .i64 pk) /\ w'.cell? ⟨Wb.heap.size + 1, 4, none⟩ = some (.string pnm) /\ w'.cell? ⟨Wb.heap.size + 1, 5, none⟩ = some (.int .i64 xk) /\ w'.cell? ⟨Wb.heap.size + 1, 6, none⟩ = some (.int .i64 xn) /\ w'.cell? ⟨Wb.heap.size + 1, 7, none⟩ = some (.string xs) /\ w'.cell? ⟨Wb.heap.size + 1, 8, none⟩ = some (.slice KA0 kl kc) /\ w'.cell? ⟨Wb.heap.size + 1, 9, none⟩ = some (.slice TA tl tc))) (by kernel_rfl) (by kernel_rfl) (by rintro ⟨a, w, h⟩; exact h) ⟨fun _ => hs.1, fun _ => hs.2.1, fun _ => hs.2.2.1, fun _ => hs.2.2.2⟩ (fun hS => ?_)
   have HKD := hid (HKS.out.below (show Below ((Wb.alloc (.cells #[.nilIface] 268)).alloc (.cells #[.int .i64 kx.kind, .int .i64 kx.num, .string kx.str, .int .i64 pk, .string pnm, .int .i64 xk, .int .i64 xn, .string xs, .slice KA0 kl kc, .slice TA tl tc] 317)).heap.size ((Wb.alloc (.cells #[.nilIface] 268)).alloc (.cells #[.int .i64 kx.kind, .int .i64 kx.num, .string kx.str, .int .i64 pk, .string pnm, .int .i64 xk, .int .i64 xn, .string xs, .slice KA0 kl kc, .slice TA tl tc] 317)) ((Wb.alloc (.cells #[.nilIface] 268)).alloc (.cells #[.int .i64 kx.kind, .int .i64 kx.num, .string kx.str, .int .i64 pk, .string pnm, .int .i64 xk, .int .i64 xn, .string xs, .slice KA0 kl kc, .slice TA tl tc] 317)).drew from (Bq _ _).drew))
   have HTR := hid (HT.out.below (show Below ((Wb.alloc (.cells #[.nilIface] 268)).alloc (.cells #[.int .i64 kx.kind, .int .i64 kx.num, .string kx.str, .int .i64 pk, .string pnm, .int .i64 xk, .int .i64 xn, .string xs, .slice KA0 kl kc, .slice TA tl tc] 317)).heap.size ((Wb.alloc (.cells #[.nilIface] 268)).alloc (.cells #[.int .i64 kx.kind, .int .i64 kx.num, .string kx.str, .int .i64 pk, .string pnm, .int .i64 xk, .int .i64 xn, .string xs, .slice KA0 kl kc, .slice TA tl tc] 317)) ((Wb.alloc (.cells #[.nilIface] 268)).alloc (.cells #[.int .i64 kx.kind, .int .i64 kx.num, .string kx.str, .int .i64 pk, .string pnm, .int .i64 xk, .int .i64 xn, .string xs, .slice KA0 kl kc, .slice TA tl tc] 317)).drew from (Bq _ _).drew))
   replace hP : ((Wb.alloc (.cells #[.nilIface] 268)).alloc (.cells #[.int .i64 kx.kind, .int .i64 kx.num, .string kx.str, .int .i64 pk, .string pnm, .int .i64 xk, .int .i64 xn, .string xs, .slice KA0 kl kc, .slice TA tl tc] 317)).drew.heap[Wb.heap.size + 1]? = some (.cells #[.int .i64 kx.kind, .int .i64 kx.num, .string kx.str, .int .i64 pk, .string pnm, .int .i64 xk, .int .i64 xn, .string xs, .slice KA0 kl kc, .slice TA tl tc] 317) := hP
   replace hsX : Wb.heap.size + 1 + 1 <= ((Wb.alloc (.cells #[.nilIface] 268)).alloc (.cells #[.int .i64 kx.kind, .int .i64 kx.num, .string kx.str, .int .i64 pk, .string pnm, .int .i64 xk, .int .i64 xn, .string xs, .slice KA0 kl kc, .slice TA tl tc] 317)).drew.heap.size := hsX
   clear hs HKS HT
   generalize hX0 : ((Wb.alloc (.cells #[.nilIface] 268)).alloc (.cells #[.int .i64 kx.kind, .int .i64 kx.num, .string kx.str, .int .i64 pk, .string pnm, .int .i64 xk, .int .i64 xn, .string xs, .slice KA0 kl kc, .slice TA tl tc] 317)).drew = X0 at hS HKD HTR hP hsX |-
   clear hX0
   refine wL 0 1 hS (fun hS => ?_); try simp only [gS]
   refine wM 1 5 ?_ ?_ hS (fun hS => ?_)
   rotate_left
   ·intro L w' hL hm; (try dsimp only at hL); have hc := hL.1 hm; go_simp; (try with_reducible rfl)
   try simp only [gS]
   refine wL 2 3 hS (fun hS => ?_); try simp only [gS]
   refine wM 3 4 ?_ ?_ hS (fun hS => ?_)
   rotate_left
   ·intro L w' hL hm; (try dsimp only at hL); obtain ⟨hc0, hc1, hc2⟩ := hL.2.2.1 hm; go_simp; (try with_reducible rfl)
   try simp only [gS]
   refine wL 6 7 hS (fun hS => ?_); try simp only [gS]
   refine wM 7 12 ?_ ?_ hS (fun hS => ?_)
   rotate_left
   ·intro L w' hL hm; (try dsimp only at hL); have hc := hL.2.1 hm; go_simp; (try with_reducible rfl)
   try simp only [gS]
   refine wL 8 9 hS (fun hS => ?_); try simp only [gS]
   refine wL 9 10 hS (fun hS => ?_); try simp only [gS]
   refine wM 10 11 ?_ ?_ hS (fun hS => ?_)
   rotate_left
   ·intro L w' hL hm; (try dsimp only at hL); obtain ⟨hc0, hc1, hc2, hc3, hc4, hc5, hc6⟩ := hL.2.2.2 hm; go_simp; (try with_reducible rfl)
   try simp only [gS]
   refine Aj (rs := [4, 11]) (by kernel_rfl) (by simp) (Ad.cons rfl (by rfl) (fun K hK => ?_) (Ad.cons rfl (by rfl) (fun K hK => ?_) Ad.nil))
   ·go_simp
    have hb1 : Below X0.heap.size X0 (X0.alloc (.cells #[.int .i64 kx.kind, .int .i64 kx.num, .string kx.str] 26)) := (Bq _ X0).alloc Nr _
    replace HKD := hid (HKD.out.below hb1)
    replace HTR := hid (HTR.out.below hb1)
    replace hP := Aa hP hb1
    have hZ4 := Wn X0 (.cells #[.int .i64 kx.kind, .int .i64 kx.num, .string kx.str] 26)
    try (replace hZ11 := Aa hZ11 hb1)
    have hszz := Nat.le_trans hsX hb1.size
    have hs := Dy HKD.out hP
    refine hK.out _ _ ⟨fun _ => hs.1, fun _ => hs.2.1, fun _ => hs.2.2.1, fun _ => hs.2.2.2⟩ (fun hS => ?_)
    clear hK K hb1 hsX
    try simp only [gS]
    first | (generalize hgen1 : X0.alloc (.cells #[.int .i64 kx.kind, .int .i64 kx.num, .string kx.str] 26) = Y1 at hS HKD HTR hP hZ4 hZ11 hszz hs |-) | (generalize hgen1 : X0.alloc (.cells #[.int .i64 kx.kind, .int .i64 kx.num, .string kx.str] 26) = Y1 at hS HKD HTR hP hZ4 hszz hs |-)
    have hsX := hszz
    clear hszz hgen1
    refine Aj (rs := [5, 11]) (by kernel_rfl) (by simp) (Ad.cons rfl (by rfl) (fun K hK => ?_) (Ad.cons rfl (by rfl) (fun K hK => ?_) Ad.nil))
    ·refine wp_append_lies _ (.tmp 37) (.tmp 40) 27 (by rfl) (N + 7) 26 i3 (.agg #[.int .i64 0, .int .i64 0, .string ⟨#[]⟩]) 3 32 (by kernel_rfl) hi3 hy0 hy1 hy2 (by rfl) (by decide) (.slice A5 n3 cap5) n3 ((pre.map OG).flatMap A6) (by rfl) (hn3 ▸ HKD.out.ko) ⟨X0.heap.size, 0, none⟩ 1 1 (A6 kx) (by rfl) (by rfl) (World.news_of_block hZ4) (Hb kx) (by decide) (by unfold maxLen; omega) (by omega) (by omega) _ rfl ?_
     intro g5 gc5 w5 hown5 hgrow5 hat5 hlt5
     have hk5 := HKD.out.growK kx (by omega) (by omega) (fun k hk => hk.2.1) (by omega) rfl (by rw [hn3]; exact hown5) hgrow5 hat5
     rw [hn3] at hk5
     have hz5 := hgrow5.size
     replace HTR := hid (As (S := fun b => N + 7 <= b /\ b < W.heap.size /\ DU (N + 7) (.slice A5 n3 cap5) (.slice A n7 cap) b) ⟨hgrow5.size, fun b o x hb hc => (hgrow5.cell_far ⟨b, o, none⟩ (AS hc) (fun e => hb.2.2.2.1 e.symm)).trans hc⟩ _ _ HTR.out)
     obtain ⟨_, _, _, ok5⟩ := AE HKD.out.ko
     replace hP := (hgrow5.block _ (Gl hP) (fun e => by obtain ⟨_, _, cur, h3⟩ := ok5 _ e.symm; rw [hP] at h3; injection h3 with h3; injection h3 with _ h3; exact absurd h3 (by decide))).trans hP
     try (replace hZ11 := (hgrow5.block _ (Gl hZ11) (fun e => by obtain ⟨_, _, cur, h3⟩ := ok5 _ e.symm; rw [hZ11] at h3; injection h3 with h3; injection h3 with _ h3; exact absurd h3 (by decide))).trans hZ11)
     replace HKD := hid hk5
     have hs := Dy HKD.out hP
     have hg5 : (Value.slice A5 n3 cap5).ownBlock = some g5 \/ W.heap.size <= g5 := by rcases hat5 with e | e; exact .inl e; right; omega
     have hsY : Wb.heap.size + 1 + 1 <= w5.heap.size := by omega
     refine hK.out _ _ ⟨fun _ => hs.1, fun _ => hs.2.1, fun _ => hs.2.2.1, fun _ => hs.2.2.2⟩ (fun hS => ?_)
     clear hK K hown5 hgrow5 hat5 hk5 ok5 hsX hz5 hZ4
     try simp only [gS]
     have hsX := hsY
     clear hsY
     refine wL 13 14 hS (fun hS => ?_); try simp only [gS]
     refine Aj (rs := [11]) (by kernel_rfl) (by simp) (Ad.cons rfl (by rfl) (fun K hK => ?_) Ad.nil)
     go_simp
     have hb3 : Below w5.heap.size w5 (w5.alloc (.cells #[.int .i64 pk, .string pnm, .int .i64 xk, .int .i64 xn, .string xs, .slice KA0 kl kc, .slice TA tl tc] 30)) := (Bq _ w5).alloc Nr _
     replace HKD := hid (HKD.out.below hb3)
     replace HTR := hid (HTR.out.below hb3)
     replace hP := Aa hP hb3
     have hZ11 := Wn w5 (.cells #[.int .i64 pk, .string pnm, .int .i64 xk, .int .i64 xn, .string xs, .slice KA0 kl kc, .slice TA tl tc] 30)
     try (replace hZ4 := Aa hZ4 hb3)
     have hszz := Nat.le_trans hsX hb3.size
     have hs := Dy HKD.out hP
     refine hK.out _ _ ⟨fun _ => hs.1, fun _ => hs.2.1, fun _ => hs.2.2.1, fun _ => hs.2.2.2⟩ (fun hS => ?_)
     clear hK K hb3 hsX
     try simp only [gS]
     first | (generalize hgen3 : w5.alloc (.cells #[.int .i64 pk, .string pnm, .int .i64 xk, .int .i64 xn, .string xs, .slice KA0 kl kc, .slice TA tl tc] 30) = Y3 at hS HKD HTR hP hZ4 hZ11 hszz hs |-) | (generalize hgen3 : w5.alloc (.cells #[.int .i64 pk, .string pnm, .int .i64 xk, .int .i64 xn, .string xs, .slice KA0 kl kc, .slice TA tl tc] 30) = Y3 at hS HKD HTR hP hZ11 hszz hs |-)
     have hsX := hszz
     clear hszz hgen3
     refine Aj (rs := [12]) (by kernel_rfl) (by simp) (Ad.cons rfl (by rfl) (fun K hK => ?_) Ad.nil)
     refine wp_append_lies _ (.tmp 43) (.tmp 47) 28 (by rfl) (N + 7) 30 i0 (.agg #[.int .i64 0, .string ⟨#[]⟩, .int .i64 0, .int .i64 0, .string ⟨#[]⟩, .slice none 0 0, .slice none 0 0]) 7 104 (by kernel_rfl) hi0 hz0 hz1 hz2 (by rfl) (by decide) (.slice A n7 cap) n7 (tvs.flatMap Bf) (by rfl) (hn7 ▸ HKD.out.co) ⟨w5.heap.size, 0, none⟩ 1 1 [.int .i64 pk, .string pnm, .int .i64 xk, .int .i64 xn, .string xs, .slice KA0 kl kc, .slice TA tl tc] (by rfl) (by rfl) (World.news_of_block hZ11) (Ep _ _ _ _ _ _ _ _ _ _ _) (by decide) (by unfold maxLen; omega) (by omega) (by omega) _ rfl ?_
     intro g7 gc7 w7 hown7 hgrow7 hat7 hlt7
     have hTD : Ao Y3 (DU (N + 7) (.slice (some ⟨g5, 0, none⟩) (n3 + 1) gc5) (.slice A n7 cap)) t (.agg #[.int .i64 pk, .string pnm, .int .i64 xk, .int .i64 xn, .string xs, .slice KA0 kl kc, .slice TA tl tc]) := Au (fun b _ hb => ⟨hb.1, fun e => by
       simp [Value.ownBlock] at e
       subst e
       rcases hg5 with e | e
       ·exact hb.2.2.2.1 e
       ·have := hb.2.1; omega, hb.2.2.2.2⟩) _ _ HTR.out
     have hk7 := HKD.out.growC hTD (by omega) (by omega) (fun k hk => hk.2.1) (by omega) rfl (by rw [hn7]; exact hown7) hgrow7 hat7
     rw [hn7] at hk7
     obtain ⟨_, _, _, oc7⟩ := AE HKD.out.co
     replace hP := (hgrow7.block _ (Gl hP) (fun e => by obtain ⟨_, _, cur, h3⟩ := oc7 _ e.symm; rw [hP] at h3; injection h3 with h3; injection h3 with _ h3; exact absurd h3 (by decide))).trans hP
     replace HKD := hid hk7
     have hs := Dy HKD.out hP
     have hf5 : w7.frozen? ⟨N + 1 + 1 + 1, 5, none⟩ = false := by simp [World.frozen?, HKD.out.tb]
     have hf6 : w7.frozen? ⟨N + 1 + 1 + 1, 6, none⟩ = false := by simp [World.frozen?, HKD.out.tb]
     obtain ⟨hc5, hc6, _, _⟩ := id hs
     refine hK.out _ _ ⟨fun _ => hs.1, fun _ => hs.2.1, fun _ => hs.2.2.1, fun _ => hs.2.2.2⟩ (fun hS => ?_)
     clear hK K hown7 hgrow7 hat7 hk7 oc7 hTD hZ11
     try simp only [gS]
     refine Aj (rs := [14]) (by kernel_rfl) (by simp) (Ad.cons rfl (by rfl) (fun K hK => ?_) Ad.nil)
     go_simp
     refine hK.out _ _ ⟨fun hc => absurd hc (by decide), fun hc => absurd hc (by decide), fun hc => absurd hc (by decide), fun hc => absurd hc (by decide)⟩ (fun hS => ?_)
     clear hK K
     try simp only [gS]
     refine wL 15 16 hS (fun hS => ?_); try simp only [gS]
     refine Aj (rs := [16]) (by kernel_rfl) (by simp) (Ad.cons rfl (by rfl) (fun K hK => ?_) Ad.nil)
     go_simp
     refine hK.out _ _ ⟨fun hc => absurd hc (by decide), fun hc => absurd hc (by decide), fun hc => absurd hc (by decide), fun hc => absurd hc (by decide)⟩ (fun hS => ?_)
     clear hK K
     try simp only [gS]
     refine AU (by kernel_rfl) ?_ _
     have hfin := HKD.out.head (by omega) (by omega) (fun hk => hk.2.2 rfl) _ rfl
     have hmd : Ax R w _ := HIB.out.md.keeps (K := KA N) (by have := hfin.kp; rw [hN]; exact this)
     rw [hN]
     exact ⟨hfin.kp.less (fun k hk => ⟨hk.1, hk.2.1, hk.2.2.2⟩), ⟨HG.out, Nat.le_trans hbz hfin.kp.size, hmd, Am HIB.out.b0 hfin.kp (.inr ⟨by omega, by omega, by omega⟩), Am HIB.out.res hfin.kp (.inr ⟨by omega, by omega, by omega⟩), _, _, _, by rw [List.map_append, List.map_append]; exact hfin.base⟩⟩
    ·go_simp
     have hb4 : Below Y1.heap.size Y1 (Y1.alloc (.cells #[.int .i64 pk, .string pnm, .int .i64 xk, .int .i64 xn, .string xs, .slice KA0 kl kc, .slice TA tl tc] 30)) := (Bq _ Y1).alloc Nr _
     replace HKD := hid (HKD.out.below hb4)
     replace HTR := hid (HTR.out.below hb4)
     replace hP := Aa hP hb4
     have hZ11 := Wn Y1 (.cells #[.int .i64 pk, .string pnm, .int .i64 xk, .int .i64 xn, .string xs, .slice KA0 kl kc, .slice TA tl tc] 30)
     try (replace hZ4 := Aa hZ4 hb4)
     have hszz := Nat.le_trans hsX hb4.size
     have hs := Dy HKD.out hP
     refine hK.out _ _ ⟨fun _ => hs.1, fun _ => hs.2.1, fun _ => hs.2.2.1, fun _ => hs.2.2.2⟩ (fun hS => ?_)
     clear hK K hb4 hsX
     try simp only [gS]
     first | (generalize hgen4 : Y1.alloc (.cells #[.int .i64 pk, .string pnm, .int .i64 xk, .int .i64 xn, .string xs, .slice KA0 kl kc, .slice TA tl tc] 30) = Y4 at hS HKD HTR hP hZ4 hZ11 hszz hs |-) | (generalize hgen4 : Y1.alloc (.cells #[.int .i64 pk, .string pnm, .int .i64 xk, .int .i64 xn, .string xs, .slice KA0 kl kc, .slice TA tl tc] 30) = Y4 at hS HKD HTR hP hZ11 hszz hs |-)
     have hsX := hszz
     clear hszz hgen4
     refine Aj (rs := [5]) (by kernel_rfl) (by simp) (Ad.cons rfl (by rfl) (fun K hK => ?_) Ad.nil)
     refine wp_append_lies _ (.tmp 37) (.tmp 40) 27 (by rfl) (N + 7) 26 i3 (.agg #[.int .i64 0, .int .i64 0, .string ⟨#[]⟩]) 3 32 (by kernel_rfl) hi3 hy0 hy1 hy2 (by rfl) (by decide) (.slice A5 n3 cap5) n3 ((pre.map OG).flatMap A6) (by rfl) (hn3 ▸ HKD.out.ko) ⟨X0.heap.size, 0, none⟩ 1 1 (A6 kx) (by rfl) (by rfl) (World.news_of_block hZ4) (Hb kx) (by decide) (by unfold maxLen; omega) (by omega) (by omega) _ rfl ?_
     intro g5 gc5 w5 hown5 hgrow5 hat5 hlt5
     have hk5 := HKD.out.growK kx (by omega) (by omega) (fun k hk => hk.2.1) (by omega) rfl (by rw [hn3]; exact hown5) hgrow5 hat5
     rw [hn3] at hk5
     have hz5 := hgrow5.size
     replace HTR := hid (As (S := fun b => N + 7 <= b /\ b < W.heap.size /\ DU (N + 7) (.slice A5 n3 cap5) (.slice A n7 cap) b) ⟨hgrow5.size, fun b o x hb hc => (hgrow5.cell_far ⟨b, o, none⟩ (AS hc) (fun e => hb.2.2.2.1 e.symm)).trans hc⟩ _ _ HTR.out)
     obtain ⟨_, _, _, ok5⟩ := AE HKD.out.ko
     replace hP := (hgrow5.block _ (Gl hP) (fun e => by obtain ⟨_, _, cur, h3⟩ := ok5 _ e.symm; rw [hP] at h3; injection h3 with h3; injection h3 with _ h3; exact absurd h3 (by decide))).trans hP
     try (replace hZ11 := (hgrow5.block _ (Gl hZ11) (fun e => by obtain ⟨_, _, cur, h3⟩ := ok5 _ e.symm; rw [hZ11] at h3; injection h3 with h3; injection h3 with _ h3; exact absurd h3 (by decide))).trans hZ11)
     replace HKD := hid hk5
     have hs := Dy HKD.out hP
     have hg5 : (Value.slice A5 n3 cap5).ownBlock = some g5 \/ W.heap.size <= g5 := by rcases hat5 with e | e; exact .inl e; right; omega
     have hsY : Wb.heap.size + 1 + 1 <= w5.heap.size := by omega
     refine hK.out _ _ ⟨fun _ => hs.1, fun _ => hs.2.1, fun _ => hs.2.2.1, fun _ => hs.2.2.2⟩ (fun hS => ?_)
     clear hK K hown5 hgrow5 hat5 hk5 ok5 hsX hz5 hZ4
     try simp only [gS]
     have hsX := hsY
     clear hsY
     refine wL 13 14 hS (fun hS => ?_); try simp only [gS]
     refine Aj (rs := [12]) (by kernel_rfl) (by simp) (Ad.cons rfl (by rfl) (fun K hK => ?_) Ad.nil)
     refine wp_append_lies _ (.tmp 43) (.tmp 47) 28 (by rfl) (N + 7) 30 i0 (.agg #[.int .i64 0, .string ⟨#[]⟩, .int .i64 0, .int .i64 0, .string ⟨#[]⟩, .slice none 0 0, .slice none 0 0]) 7 104 (by kernel_rfl) hi0 hz0 hz1 hz2 (by rfl) (by decide) (.slice A n7 cap) n7 (tvs.flatMap Bf) (by rfl) (hn7 ▸ HKD.out.co) ⟨Y1.heap.size, 0, none⟩ 1 1 [.int .i64 pk, .string pnm, .int .i64 xk, .int .i64 xn, .string xs, .slice KA0 kl kc, .slice TA tl tc] (by rfl) (by rfl) (World.news_of_block hZ11) (Ep _ _ _ _ _ _ _ _ _ _ _) (by decide) (by unfold maxLen; omega) (by omega) (by omega) _ rfl ?_
     intro g7 gc7 w7 hown7 hgrow7 hat7 hlt7
     have hTD : Ao w5 (DU (N + 7) (.slice (some ⟨g5, 0, none⟩) (n3 + 1) gc5) (.slice A n7 cap)) t (.agg #[.int .i64 pk, .string pnm, .int .i64 xk, .int .i64 xn, .string xs, .slice KA0 kl kc, .slice TA tl tc]) := Au (fun b _ hb => ⟨hb.1, fun e => by
       simp [Value.ownBlock] at e
       subst e
       rcases hg5 with e | e
       ·exact hb.2.2.2.1 e
       ·have := hb.2.1; omega, hb.2.2.2.2⟩) _ _ HTR.out
     have hk7 := HKD.out.growC hTD (by omega) (by omega) (fun k hk => hk.2.1) (by omega) rfl (by rw [hn7]; exact hown7) hgrow7 hat7
     rw [hn7] at hk7
     obtain ⟨_, _, _, oc7⟩ := AE HKD.out.co
     replace hP := (hgrow7.block _ (Gl hP) (fun e => by obtain ⟨_, _, cur, h3⟩ := oc7 _ e.symm; rw [hP] at h3; injection h3 with h3; injection h3 with _ h3; exact absurd h3 (by decide))).trans hP
     replace HKD := hid hk7
     have hs := Dy HKD.out hP
     have hf5 : w7.frozen? ⟨N + 1 + 1 + 1, 5, none⟩ = false := by simp [World.frozen?, HKD.out.tb]
     have hf6 : w7.frozen? ⟨N + 1 + 1 + 1, 6, none⟩ = false := by simp [World.frozen?, HKD.out.tb]
     obtain ⟨hc5, hc6, _, _⟩ := id hs
     refine hK.out _ _ ⟨fun _ => hs.1, fun _ => hs.2.1, fun _ => hs.2.2.1, fun _ => hs.2.2.2⟩ (fun hS => ?_)
     clear hK K hown7 hgrow7 hat7 hk7 oc7 hTD hZ11
     try simp only [gS]
     refine Aj (rs := [14]) (by kernel_rfl) (by simp) (Ad.cons rfl (by rfl) (fun K hK => ?_) Ad.nil)
     go_simp
     refine hK.out _ _ ⟨fun hc => absurd hc (by decide), fun hc => absurd hc (by decide), fun hc => absurd hc (by decide), fun hc => absurd hc (by decide)⟩ (fun hS => ?_)
     clear hK K
     try simp only [gS]
     refine wL 15 16 hS (fun hS => ?_); try simp only [gS]
     refine Aj (rs := [16]) (by kernel_rfl) (by simp) (Ad.cons rfl (by rfl) (fun K hK => ?_) Ad.nil)
     go_simp
     refine hK.out _ _ ⟨fun hc => absurd hc (by decide), fun hc => absurd hc (by decide), fun hc => absurd hc (by decide), fun hc => absurd hc (by decide)⟩ (fun hS => ?_)
     clear hK K
     try simp only [gS]
     refine AU (by kernel_rfl) ?_ _
     have hfin := HKD.out.head (by omega) (by omega) (fun hk => hk.2.2 rfl) _ rfl
     have hmd : Ax R w _ := HIB.out.md.keeps (K := KA N) (by have := hfin.kp; rw [hN]; exact this)
     rw [hN]
     exact ⟨hfin.kp.less (fun k hk => ⟨hk.1, hk.2.1, hk.2.2.2⟩), ⟨HG.out, Nat.le_trans hbz hfin.kp.size, hmd, Am HIB.out.b0 hfin.kp (.inr ⟨by omega, by omega, by omega⟩), Am HIB.out.res hfin.kp (.inr ⟨by omega, by omega, by omega⟩), _, _, _, by rw [List.map_append, List.map_append]; exact hfin.base⟩⟩
   ·go_simp
    have hb6 : Below X0.heap.size X0 (X0.alloc (.cells #[.int .i64 pk, .string pnm, .int .i64 xk, .int .i64 xn, .string xs, .slice KA0 kl kc, .slice TA tl tc] 30)) := (Bq _ X0).alloc Nr _
    replace HKD := hid (HKD.out.below hb6)
    replace HTR := hid (HTR.out.below hb6)
    replace hP := Aa hP hb6
    have hZ11 := Wn X0 (.cells #[.int .i64 pk, .string pnm, .int .i64 xk, .int .i64 xn, .string xs, .slice KA0 kl kc, .slice TA tl tc] 30)
    try (replace hZ4 := Aa hZ4 hb6)
    have hszz := Nat.le_trans hsX hb6.size
    have hs := Dy HKD.out hP
    refine hK.out _ _ ⟨fun _ => hs.1, fun _ => hs.2.1, fun _ => hs.2.2.1, fun _ => hs.2.2.2⟩ (fun hS => ?_)
    clear hK K hb6 hsX
    try simp only [gS]
    first | (generalize hgen6 : X0.alloc (.cells #[.int .i64 pk, .string pnm, .int .i64 xk, .int .i64 xn, .string xs, .slice KA0 kl kc, .slice TA tl tc] 30) = Y6 at hS HKD HTR hP hZ4 hZ11 hszz hs |-) | (generalize hgen6 : X0.alloc (.cells #[.int .i64 pk, .string pnm, .int .i64 xk, .int .i64 xn, .string xs, .slice KA0 kl kc, .slice TA tl tc] 30) = Y6 at hS HKD HTR hP hZ11 hszz hs |-)
    have hsX := hszz
    clear hszz hgen6
    refine Aj (rs := [4]) (by kernel_rfl) (by simp) (Ad.cons rfl (by rfl) (fun K hK => ?_) Ad.nil)
    go_simp
    have hb7 : Below Y6.heap.size Y6 (Y6.alloc (.cells #[.int .i64 kx.kind, .int .i64 kx.num, .string kx.str] 26)) := (Bq _ Y6).alloc Nr _
    replace HKD := hid (HKD.out.below hb7)
    replace HTR := hid (HTR.out.below hb7)
    replace hP := Aa hP hb7
    have hZ4 := Wn Y6 (.cells #[.int .i64 kx.kind, .int .i64 kx.num, .string kx.str] 26)
    try (replace hZ11 := Aa hZ11 hb7)
    have hszz := Nat.le_trans hsX hb7.size
    have hs := Dy HKD.out hP
    refine hK.out _ _ ⟨fun _ => hs.1, fun _ => hs.2.1, fun _ => hs.2.2.1, fun _ => hs.2.2.2⟩ (fun hS => ?_)
    clear hK K hb7 hsX
    try simp only [gS]
    first | (generalize hgen7 : Y6.alloc (.cells #[.int .i64 kx.kind, .int .i64 kx.num, .string kx.str] 26) = Y7 at hS HKD HTR hP hZ4 hZ11 hszz hs |-) | (generalize hgen7 : Y6.alloc (.cells #[.int .i64 kx.kind, .int .i64 kx.num, .string kx.str] 26) = Y7 at hS HKD HTR hP hZ4 hszz hs |-)
    have hsX := hszz
    clear hszz hgen7
    refine Aj (rs := [5]) (by kernel_rfl) (by simp) (Ad.cons rfl (by rfl) (fun K hK => ?_) Ad.nil)
    refine wp_append_lies _ (.tmp 37) (.tmp 40) 27 (by rfl) (N + 7) 26 i3 (.agg #[.int .i64 0, .int .i64 0, .string ⟨#[]⟩]) 3 32 (by kernel_rfl) hi3 hy0 hy1 hy2 (by rfl) (by decide) (.slice A5 n3 cap5) n3 ((pre.map OG).flatMap A6) (by rfl) (hn3 ▸ HKD.out.ko) ⟨Y6.heap.size, 0, none⟩ 1 1 (A6 kx) (by rfl) (by rfl) (World.news_of_block hZ4) (Hb kx) (by decide) (by unfold maxLen; omega) (by omega) (by omega) _ rfl ?_
    intro g5 gc5 w5 hown5 hgrow5 hat5 hlt5
    have hk5 := HKD.out.growK kx (by omega) (by omega) (fun k hk => hk.2.1) (by omega) rfl (by rw [hn3]; exact hown5) hgrow5 hat5
    rw [hn3] at hk5
    have hz5 := hgrow5.size
    replace HTR := hid (As (S := fun b => N + 7 <= b /\ b < W.heap.size /\ DU (N + 7) (.slice A5 n3 cap5) (.slice A n7 cap) b) ⟨hgrow5.size, fun b o x hb hc => (hgrow5.cell_far ⟨b, o, none⟩ (AS hc) (fun e => hb.2.2.2.1 e.symm)).trans hc⟩ _ _ HTR.out)
    obtain ⟨_, _, _, ok5⟩ := AE HKD.out.ko
    replace hP := (hgrow5.block _ (Gl hP) (fun e => by obtain ⟨_, _, cur, h3⟩ := ok5 _ e.symm; rw [hP] at h3; injection h3 with h3; injection h3 with _ h3; exact absurd h3 (by decide))).trans hP
    try (replace hZ11 := (hgrow5.block _ (Gl hZ11) (fun e => by obtain ⟨_, _, cur, h3⟩ := ok5 _ e.symm; rw [hZ11] at h3; injection h3 with h3; injection h3 with _ h3; exact absurd h3 (by decide))).trans hZ11)
    replace HKD := hid hk5
    have hs := Dy HKD.out hP
    have hg5 : (Value.slice A5 n3 cap5).ownBlock = some g5 \/ W.heap.size <= g5 := by rcases hat5 with e | e; exact .inl e; right; omega
    have hsY : Wb.heap.size + 1 + 1 <= w5.heap.size := by omega
    refine hK.out _ _ ⟨fun _ => hs.1, fun _ => hs.2.1, fun _ => hs.2.2.1, fun _ => hs.2.2.2⟩ (fun hS => ?_)
    clear hK K hown5 hgrow5 hat5 hk5 ok5 hsX hz5 hZ4
    try simp only [gS]
    have hsX := hsY
    clear hsY
    refine wL 13 14 hS (fun hS => ?_); try simp only [gS]
    refine Aj (rs := [12]) (by kernel_rfl) (by simp) (Ad.cons rfl (by rfl) (fun K hK => ?_) Ad.nil)
    refine wp_append_lies _ (.tmp 43) (.tmp 47) 28 (by rfl) (N + 7) 30 i0 (.agg #[.int .i64 0, .string ⟨#[]⟩, .int .i64 0, .int .i64 0, .string ⟨#[]⟩, .slice none 0 0, .slice none 0 0]) 7 104 (by kernel_rfl) hi0 hz0 hz1 hz2 (by rfl) (by decide) (.slice A n7 cap) n7 (tvs.flatMap Bf) (by rfl) (hn7 ▸ HKD.out.co) ⟨X0.heap.size, 0, none⟩ 1 1 [.int .i64 pk, .string pnm, .int .i64 xk, .int .i64 xn, .string xs, .slice KA0 kl kc, .slice TA tl tc] (by rfl) (by rfl) (World.news_of_block hZ11) (Ep _ _ _ _ _ _ _ _ _ _ _) (by decide) (by unfold maxLen; omega) (by omega) (by omega) _ rfl ?_
    intro g7 gc7 w7 hown7 hgrow7 hat7 hlt7
    have hTD : Ao w5 (DU (N + 7) (.slice (some ⟨g5, 0, none⟩) (n3 + 1) gc5) (.slice A n7 cap)) t (.agg #[.int .i64 pk, .string pnm, .int .i64 xk, .int .i64 xn, .string xs, .slice KA0 kl kc, .slice TA tl tc]) := Au (fun b _ hb => ⟨hb.1, fun e => by
      simp [Value.ownBlock] at e
      subst e
      rcases hg5 with e | e
      ·exact hb.2.2.2.1 e
      ·have := hb.2.1; omega, hb.2.2.2.2⟩) _ _ HTR.out
    have hk7 := HKD.out.growC hTD (by omega) (by omega) (fun k hk => hk.2.1) (by omega) rfl (by rw [hn7]; exact hown7) hgrow7 hat7
    rw [hn7] at hk7
    obtain ⟨_, _, _, oc7⟩ := AE HKD.out.co
    replace hP := (hgrow7.block _ (Gl hP) (fun e => by obtain ⟨_, _, cur, h3⟩ := oc7 _ e.symm; rw [hP] at h3; injection h3 with h3; injection h3 with _ h3; exact absurd h3 (by decide))).trans hP
    replace HKD := hid hk7
    have hs := Dy HKD.out hP
    have hf5 : w7.frozen? ⟨N + 1 + 1 + 1, 5, none⟩ = false := by simp [World.frozen?, HKD.out.tb]
    have hf6 : w7.frozen? ⟨N + 1 + 1 + 1, 6, none⟩ = false := by simp [World.frozen?, HKD.out.tb]
    obtain ⟨hc5, hc6, _, _⟩ := id hs
    refine hK.out _ _ ⟨fun _ => hs.1, fun _ => hs.2.1, fun _ => hs.2.2.1, fun _ => hs.2.2.2⟩ (fun hS => ?_)
    clear hK K hown7 hgrow7 hat7 hk7 oc7 hTD hZ11
    try simp only [gS]
    refine Aj (rs := [14]) (by kernel_rfl) (by simp) (Ad.cons rfl (by rfl) (fun K hK => ?_) Ad.nil)
    go_simp
    refine hK.out _ _ ⟨fun hc => absurd hc (by decide), fun hc => absurd hc (by decide), fun hc => absurd hc (by decide), fun hc => absurd hc (by decide)⟩ (fun hS => ?_)
    clear hK K
    try simp only [gS]
    refine wL 15 16 hS (fun hS => ?_); try simp only [gS]
    refine Aj (rs := [16]) (by kernel_rfl) (by simp) (Ad.cons rfl (by rfl) (fun K hK => ?_) Ad.nil)
    go_simp
    refine hK.out _ _ ⟨fun hc => absurd hc (by decide), fun hc => absurd hc (by decide), fun hc => absurd hc (by decide), fun hc => absurd hc (by decide)⟩ (fun hS => ?_)
    clear hK K
    try simp only [gS]
    refine AU (by kernel_rfl) ?_ _
    have hfin := HKD.out.head (by omega) (by omega) (fun hk => hk.2.2 rfl) _ rfl
    have hmd : Ax R w _ := HIB.out.md.keeps (K := KA N) (by have := hfin.kp; rw [hN]; exact this)
    rw [hN]
    exact ⟨hfin.kp.less (fun k hk => ⟨hk.1, hk.2.1, hk.2.2.2⟩), ⟨HG.out, Nat.le_trans hbz hfin.kp.size, hmd, Am HIB.out.b0 hfin.kp (.inr ⟨by omega, by omega, by omega⟩), Am HIB.out.res hfin.kp (.inr ⟨by omega, by omega, by omega⟩), _, _, _, by rw [List.map_append, List.map_append]; exact hfin.base⟩⟩
 case done =>
  rintro D xs W hD hI ⟨q, hE, hq⟩ hK
  have hsz := HL.out.sz
  obtain ⟨vk, vc, tvs, hk⟩ := hI.ks
  have htr := hk.tree
  obtain ⟨A, cap, rfl, _⟩ := AE hk.co
  obtain ⟨A5, cap5, rfl, _⟩ := AE hk.ko
  obtain ⟨n5, hn5⟩ : ∃ n, (xs.map OG).length = n := ⟨_, rfl⟩
  rw [hn5] at hk htr
  have hrd := HR.out.mod hq hI.md
  have hEn := JR R v _ ts q 11 (BJ (xs.map OG) (xs.map N6)) W hrd.tk hx.len (by have := hE.1; have := hx.len; omega) (N + 7) hI.sz (by omega) hq htr
  rw [hE.2] at hEn
  have b0 := hI.b0.cell
  have b2 := hI.res.cell
  have f2 := hI.res.frozen
  have hC : W.cell? ⟨N + 1 + 1 + 1, 0, none⟩ = some (.int .i64 2) /\ W.cell? ⟨N + 1 + 1 + 1, 1, none⟩ = some (.string ⟨#[]⟩) /\ W.cell? ⟨N + 1 + 1 + 1, 2, none⟩ = some (.int .i64 0) /\ W.cell? ⟨N + 1 + 1 + 1, 3, none⟩ = some (.int .i64 0) /\ W.cell? ⟨N + 1 + 1 + 1, 4, none⟩ = some (.string ⟨#[]⟩) /\ W.cell? ⟨N + 1 + 1 + 1, 5, none⟩ = some (.slice A5 n5 cap5) /\ W.cell? ⟨N + 1 + 1 + 1, 6, none⟩ = some (.slice A tvs.length cap) := by
   refine ⟨?_, ?_, ?_, ?_, ?_, ?_, ?_⟩ <;> simp [World.cell?, hk.tb, <- hn5]
  obtain ⟨c0, c1, c2, c3, c4, c5, c6⟩ := hC
  have HI := hid hI
  clear hk htr hE hq hrd hI hV h
  go_wp2_with fail
  refine hEn.mono ?_
  intro e W' hP
  obtain ⟨⟨T, u, rfl⟩, hmd⟩ := hP.form
  obtain ⟨hK2, hfin⟩ := hP.shut HI.out.md hN (by omega) (by omega) hK rfl
  have b2' := Ah HI.out.res hmd (by omega)
  have d0 := (Ar (b2'.set (.iface T u)) hK2 (.deferred none)).cell
  have b2c := b2'.cell
  have b2f := b2'.frozen
  have HF := hid hfin
  clear hEn hP hmd hfin b0 b2 f2 c0 c1 c2 c3 c4 c5 c6
  go_wp2
  refine ⟨by simp, .inl ⟨_, _, rfl, run_takeDeferred hK2, ?_⟩⟩
  refine ⟨.iface T u, by simp [results, Tryz.f187, go_sem, d0], ?_⟩
  rw [hN]
  exact HF.out
 case stop =>
  rintro D co pre W hD ⟨rfl, e, he, hres, hmd⟩ hK
  refine wpIn_wide.2 ?_
  have hsz := HL.out.sz
  go_wp2
  refine ⟨by simp, .inl ⟨_, _, rfl, run_takeDeferred hK, ?_⟩⟩
  have d0 := (Ar hres hK (.deferred none)).cell
  refine ⟨CZ e, by simp [results, Tryz.f187, go_sem, d0], ?_⟩
  rw [he.out]
  exact ⟨rfl, Af.trans hmd (Af.putObj _ hK (by omega) rfl)⟩
theorem T3 (w : World) : (binOp BinOp.eql 266 .nilFunc .nilFunc).run Tryz.prog w = .ok (.bool true) w := by kernel_rfl
theorem Vb (f : FuncId) (b c : Array Value) (w : World) : (binOp BinOp.eql 266 (.func (.func f) b c) .nilFunc).run Tryz.prog w = .ok (.bool false) w := by kernel_rfl
theorem Fk {f : FuncId} {R d : Nat} {v : Value} {ts : List AV} {q : Nat} {r : FR} {w : World} (h : Rd w R v ts q) (hc : ∀ W, Rd W R v ts q -> Calls Tryz.prog f #[.pointer (some ⟨R, 0, none⟩), .int .i64 d] W (Cm W.heap.size R v ts r W)) (W : World) (hb : Below w.heap.size w W) :
  Calls Tryz.prog f #[.pointer (some ⟨R, 0, none⟩), .int .i64 d] W fun e w' => (∃ T x, e = .returned (.iface T x)) /\ Cm w.heap.size R v ts r w e w' := by
 refine (hc W (h.below hb)).mono (fun e w' hP => ⟨hP.form.1, hP.less hb.size (Ax.of_below hb)⟩)
theorem SS (n d : Nat) {ts : List AV} {q : Nat} (hq : q < ts.length) (hd : ¬ 24 < d) : AZ (n + 1) d (AP (ts.drop q)) =
  if (ts.getD q ⟨0, [], 0⟩).kind = 3 then NT n d (ts.getD q ⟨0, [], 0⟩).str (AP (ts.drop (q + 1)))
  else if (ts.getD q ⟨0, [], 0⟩).kind = 4 then .ok (FO (ts.getD q ⟨0, [], 0⟩).str) (AP (ts.drop (q + 1)))
  else if (ts.getD q ⟨0, [], 0⟩).kind = 8 then Cz n d (AP (ts.drop (q + 1))) []
  else if (ts.getD q ⟨0, [], 0⟩).kind = 10 then BK n d (AP (ts.drop (q + 1))) [] []
  else if (B3 ⟨(ts.getD q ⟨0, [], 0⟩).kind, (ts.getD q ⟨0, [], 0⟩).str⟩).2 = 0 then .ok (EO (B3 ⟨(ts.getD q ⟨0, [], 0⟩).kind, (ts.getD q ⟨0, [], 0⟩).str⟩).1) (AP (ts.drop (q + 1))) else .bad (B3 ⟨(ts.getD q ⟨0, [], 0⟩).kind, (ts.getD q ⟨0, [], 0⟩).str⟩).2 := by
 rw [LH hq]
 conv => lhs; unfold AZ
 rw [if_neg hd]
 rfl
theorem NA (n R : Nat) (v : Value) (ts : List AV) (hx : Fx ts) (hV : ∀ m, m <= n -> Jb m R v ts) : Jb (n + 1) R v ts := by
 intro d q w h hq hd hn
 have hpl := hx.len
 have hlt := h.rf.lt
 by_cases h24 : 24 < d
 case pos =>
  have hdi : decide ((24 : Int) < (d : Int)) = true := by simp; omega
  have hr : AZ (n + 1) d (AP (ts.drop q)) = .bad 73 := by unfold AZ; rw [if_pos h24]
  rw [hr]
  have hN := fun w1 => BN 73 w1
  go_enter Tryz.func165, Tryz.ntmps165
  go_wp2_with fail
  refine (hN _).mono ?_
  rintro e w3 ⟨rfl, hw⟩
  subst hw
  unfold CZ
  go_wp2
  go_ret
  exact ⟨rfl, (Ax.refl R w).alloc _⟩
 have hdi : decide ((24 : Int) < (d : Int)) = false := by simp; omega
 rcases Nat.lt_or_ge q ts.length with hlt' | hge
 case inr =>
  have hr : AZ (n + 1) d (AP (ts.drop q)) = .bad 91 := by rw [Iv (by omega)]; unfold AZ; rw [if_neg h24]
  rw [hr]
  have hN := fun w1 => BN 91 w1
  obtain ⟨A, ca, rfl, hA⟩ := h.tk
  obtain ⟨g0, g1, f0, f1⟩ := h.rf.cells
  obtain ⟨tn, htn⟩ : ∃ n, ts.length = n := ⟨_, rfl⟩
  rw [htn] at g0 hge hpl
  have hqi : ¬ (q : Int) < (tn : Int) := by omega
  have hq0 : decide ((q : Int) < 0) = false := by simp
  clear hA h hn hq htn hr
  go_enter Tryz.func165, Tryz.ntmps165
  go_wp2
  go_quiet (fail)
  go_wp2_with fail
  refine (hN _).mono ?_
  rintro e w3 ⟨rfl, hw⟩
  subst hw
  unfold CZ
  go_wp2
  go_ret
  exact ⟨rfl, (Ax.of_below (Ae ((Bq _ w).alloc Nr _)))⟩
 rw [SS n d hlt' h24]
 obtain ⟨r, hr⟩ : ∃ r, (if (ts.getD q ⟨0, [], 0⟩).kind = 3 then NT n d (ts.getD q ⟨0, [], 0⟩).str (AP (ts.drop (q + 1)))
  else if (ts.getD q ⟨0, [], 0⟩).kind = 4 then .ok (FO (ts.getD q ⟨0, [], 0⟩).str) (AP (ts.drop (q + 1)))
  else if (ts.getD q ⟨0, [], 0⟩).kind = 8 then Cz n d (AP (ts.drop (q + 1))) []
  else if (ts.getD q ⟨0, [], 0⟩).kind = 10 then BK n d (AP (ts.drop (q + 1))) [] []
  else if (B3 ⟨(ts.getD q ⟨0, [], 0⟩).kind, (ts.getD q ⟨0, [], 0⟩).str⟩).2 = 0 then .ok (EO (B3 ⟨(ts.getD q ⟨0, [], 0⟩).kind, (ts.getD q ⟨0, [], 0⟩).str⟩).1) (AP (ts.drop (q + 1))) else .bad (B3 ⟨(ts.getD q ⟨0, [], 0⟩).kind, (ts.getD q ⟨0, [], 0⟩).str⟩).2) = r := ⟨_, rfl⟩
 rw [hr]
 have H1 : Hid ((ts.getD q ⟨0, [], 0⟩).kind = 1 \/ (ts.getD q ⟨0, [], 0⟩).kind = 2 -> ∀ W, Below w.heap.size w W -> Calls Tryz.prog 183 #[.pointer (some ⟨R, 0, none⟩), .int .i64 d] W fun e w' => (∃ T x, e = .returned (.iface T x)) /\ Cm w.heap.size R v ts r w e w') := hid (fun hk => by
  rw [if_neg (by omega), if_neg (by omega), if_neg (by omega), if_neg (by omega)] at hr
  exact Fk h (fun W hW => by rw [<- hr]; exact Nj R v ts q d W hx hW hlt'))
 have H3 : Hid ((ts.getD q ⟨0, [], 0⟩).kind = 3 -> ∀ W, Below w.heap.size w W -> Calls Tryz.prog 184 #[.pointer (some ⟨R, 0, none⟩), .int .i64 d] W fun e w' => (∃ T x, e = .returned (.iface T x)) /\ Cm w.heap.size R v ts r w e w') := hid (fun hk => by
  rw [if_pos hk] at hr
  exact Fk h (fun W hW => by rw [<- hr]; exact Ox n R v ts q d W (hV n Nr) hx hW hlt' hd (by omega)))
 have H4 : Hid ((ts.getD q ⟨0, [], 0⟩).kind = 4 -> ∀ W, Below w.heap.size w W -> Calls Tryz.prog 185 #[.pointer (some ⟨R, 0, none⟩), .int .i64 d] W fun e w' => (∃ T x, e = .returned (.iface T x)) /\ Cm w.heap.size R v ts r w e w') := hid (fun hk => by
  rw [if_neg (by omega), if_pos hk] at hr
  exact Fk h (fun W hW => by rw [<- hr]; exact Ti R v ts q d W hW.tk hx.len hlt' hW.rf))
 have H8 : Hid ((ts.getD q ⟨0, [], 0⟩).kind = 8 -> ∀ W, Below w.heap.size w W -> Calls Tryz.prog 186 #[.pointer (some ⟨R, 0, none⟩), .int .i64 d] W fun e w' => (∃ T x, e = .returned (.iface T x)) /\ Cm w.heap.size R v ts r w e w') := hid (fun hk => by
  rw [if_neg (by omega), if_neg (by omega), if_pos hk] at hr
  exact Fk h (fun W hW => by rw [<- hr]; exact SB n R v ts q d W (fun m hm => hV m (by omega)) hx hW hlt' (by omega) (by omega)))
 have H10 : Hid ((ts.getD q ⟨0, [], 0⟩).kind = 10 -> ∀ W, Below w.heap.size w W -> Calls Tryz.prog 187 #[.pointer (some ⟨R, 0, none⟩), .int .i64 d] W fun e w' => (∃ T x, e = .returned (.iface T x)) /\ Cm w.heap.size R v ts r w e w') := hid (fun hk => by
  rw [if_neg (by omega), if_neg (by omega), if_neg (by omega), if_pos hk] at hr
  exact Fk h (fun W hW => by rw [<- hr]; exact S5 n R v ts q d W (fun m hm => hV m (by omega)) hx hW hlt' (by omega) (by omega)))
 have H0 : Hid ((ts.getD q ⟨0, [], 0⟩).kind ≠ 1 -> (ts.getD q ⟨0, [], 0⟩).kind ≠ 2 -> (ts.getD q ⟨0, [], 0⟩).kind ≠ 3 -> (ts.getD q ⟨0, [], 0⟩).kind ≠ 4 -> (ts.getD q ⟨0, [], 0⟩).kind ≠ 8 -> (ts.getD q ⟨0, [], 0⟩).kind ≠ 10 -> r = .bad 91) := hid (fun k1 k2 k3 k4 k8 k10 => by
  rw [if_neg k3, if_neg k4, if_neg k8, if_neg k10] at hr
  have hk : B3 ⟨(ts.getD q ⟨0, [], 0⟩).kind, (ts.getD q ⟨0, [], 0⟩).str⟩ = (CF, 91) := by unfold B3; rw [if_neg k1, if_neg k2]
  rw [hk, if_neg (by decide)] at hr
  exact hr.symm)
 clear hr
 obtain ⟨A, ca, rfl, hA⟩ := h.tk
 obtain ⟨a, o, rfl, ha, a0, a1, a2⟩ := hA q hlt'
 obtain ⟨g0, g1, f0, f1⟩ := h.rf.cells
 obtain ⟨k, hk⟩ : ∃ k, (ts.getD q ⟨0, [], 0⟩).kind = k := ⟨_, rfl⟩
 rw [hk] at a0 H0 H1 H3 H4 H8 H10
 obtain ⟨tn, htn⟩ : ∃ n, ts.length = n := ⟨_, rfl⟩
 rw [htn] at g0 hlt' hpl
 have hqi : (q : Int) < (tn : Int) := by omega
 have hq0 : decide ((q : Int) < 0) = false := by simp
 clear hA h hn hq htn a1 a2 hV hk
 have hen := T3
 have hef := Vb
 go_enter Tryz.func165, Tryz.ntmps165
 go_wp2
 go_quiet (fail)
 go_upto_region 7 with fail
 go_quiet (fail)
 go_upto_region 8 with fail
 by_cases k1 : k = 1
 ·subst k1
  go_wp2_with fail
  refine (H1.out (by simp) _ ?_).mono ?_
  ·first | exact Ae (Ae ((Bq _ w).alloc Nr _)) | exact Ae ((Bq _ w).alloc Nr _)
  rintro e w3 ⟨⟨T, x, rfl⟩, hP⟩
  have HP := hid hP
  clear hP
  go_wp2
  go_ret
  exact HP.out
 by_cases k2 : k = 2
 ·subst k2
  go_wp2_with fail
  refine (H1.out (by simp) _ ?_).mono ?_
  ·first | exact Ae (Ae ((Bq _ w).alloc Nr _)) | exact Ae ((Bq _ w).alloc Nr _)
  rintro e w3 ⟨⟨T, x, rfl⟩, hP⟩
  have HP := hid hP
  clear hP
  go_wp2
  go_ret
  exact HP.out
 by_cases k3 : k = 3
 ·subst k3
  go_wp2_with fail
  refine (H3.out (by simp) _ ?_).mono ?_
  ·first | exact Ae (Ae ((Bq _ w).alloc Nr _)) | exact Ae ((Bq _ w).alloc Nr _)
  rintro e w3 ⟨⟨T, x, rfl⟩, hP⟩
  have HP := hid hP
  clear hP
  go_wp2
  go_ret
  exact HP.out
 by_cases k4 : k = 4
 ·subst k4
  go_wp2_with fail
  refine (H4.out (by simp) _ ?_).mono ?_
  ·first | exact Ae (Ae ((Bq _ w).alloc Nr _)) | exact Ae ((Bq _ w).alloc Nr _)
  rintro e w3 ⟨⟨T, x, rfl⟩, hP⟩
  have HP := hid hP
  clear hP
  go_wp2
  go_ret
  exact HP.out
 by_cases k8 : k = 8
 ·subst k8
  go_wp2_with fail
  refine (H8.out (by simp) _ ?_).mono ?_
  ·first | exact Ae (Ae ((Bq _ w).alloc Nr _)) | exact Ae ((Bq _ w).alloc Nr _)
  rintro e w3 ⟨⟨T, x, rfl⟩, hP⟩
  have HP := hid hP
  clear hP
  go_wp2
  go_ret
  exact HP.out
 by_cases k10 : k = 10
 ·subst k10
  go_wp2_with fail
  refine (H10.out (by simp) _ ?_).mono ?_
  ·first | exact Ae (Ae ((Bq _ w).alloc Nr _)) | exact Ae ((Bq _ w).alloc Nr _)
  rintro e w3 ⟨⟨T, x, rfl⟩, hP⟩
  have HP := hid hP
  clear hP
  go_wp2
  go_ret
  exact HP.out
 have H91 := hid (H0.out k1 k2 k3 k4 k8 k10)
 clear H0 H1 H3 H4 H8 H10
 by_cases kn : k < 0
 ·have kd : decide (k < 0) = true := decide_eq_true kn
  go_wp2_with fail
  refine (BN 91 _).mono ?_
  rintro e w3 ⟨rfl, hw⟩
  subst hw
  unfold CZ
  go_wp2
  go_ret
  rw [H91.out]
  exact ⟨rfl, Ax.of_below (by first | exact Ae (Ae ((Bq _ w).alloc Nr _)) | exact Ae ((Bq _ w).alloc Nr _))⟩
 have kd : decide (k < 0) = false := decide_eq_false kn
 by_cases kb : 11 <= k
 ·have ke : decide (11 <= k) = true := decide_eq_true kb
  clear k1 k2 k3 k4 k8 k10
  go_wp2_with fail
  refine (BN 91 _).mono ?_
  rintro e w3 ⟨rfl, hw⟩
  subst hw
  unfold CZ
  go_wp2
  go_ret
  rw [H91.out]
  exact ⟨rfl, Ax.of_below (by first | exact Ae (Ae ((Bq _ w).alloc Nr _)) | exact Ae ((Bq _ w).alloc Nr _))⟩
 obtain rfl | rfl | rfl | rfl | rfl : k = 0 \/ k = 5 \/ k = 6 \/ k = 7 \/ k = 9 := by omega
 ·clear k1 k2 k3 k4 k8 k10 kn kb kd
  go_wp2_with fail
  refine (BN 91 _).mono ?_
  rintro e w3 ⟨rfl, hw⟩
  subst hw
  unfold CZ
  go_wp2
  go_ret
  rw [H91.out]
  exact ⟨rfl, Ax.of_below (by first | exact Ae (Ae ((Bq _ w).alloc Nr _)) | exact Ae ((Bq _ w).alloc Nr _))⟩
 ·clear k1 k2 k3 k4 k8 k10 kn kb kd
  go_wp2_with fail
  refine (BN 91 _).mono ?_
  rintro e w3 ⟨rfl, hw⟩
  subst hw
  unfold CZ
  go_wp2
  go_ret
  rw [H91.out]
  exact ⟨rfl, Ax.of_below (by first | exact Ae (Ae ((Bq _ w).alloc Nr _)) | exact Ae ((Bq _ w).alloc Nr _))⟩
 ·clear k1 k2 k3 k4 k8 k10 kn kb kd
  go_wp2_with fail
  refine (BN 91 _).mono ?_
  rintro e w3 ⟨rfl, hw⟩
  subst hw
  unfold CZ
  go_wp2
  go_ret
  rw [H91.out]
  exact ⟨rfl, Ax.of_below (by first | exact Ae (Ae ((Bq _ w).alloc Nr _)) | exact Ae ((Bq _ w).alloc Nr _))⟩
 ·clear k1 k2 k3 k4 k8 k10 kn kb kd
  go_wp2_with fail
  refine (BN 91 _).mono ?_
  rintro e w3 ⟨rfl, hw⟩
  subst hw
  unfold CZ
  go_wp2
  go_ret
  rw [H91.out]
  exact ⟨rfl, Ax.of_below (by first | exact Ae (Ae ((Bq _ w).alloc Nr _)) | exact Ae ((Bq _ w).alloc Nr _))⟩
 ·clear k1 k2 k3 k4 k8 k10 kn kb kd
  go_wp2_with fail
  refine (BN 91 _).mono ?_
  rintro e w3 ⟨rfl, hw⟩
  subst hw
  unfold CZ
  go_wp2
  go_ret
  rw [H91.out]
  exact ⟨rfl, Ax.of_below (by first | exact Ae (Ae ((Bq _ w).alloc Nr _)) | exact Ae ((Bq _ w).alloc Nr _))⟩
theorem Hs (R : Nat) (v : Value) (ts : List AV) (hx : Fx ts) : ∀ n, ∀ m, m <= n -> Jb m R v ts
 | 0, m, hm => fun d q w _ _ _ hn => by omega
 | n + 1, m, hm => by
  rcases Nat.lt_or_ge m (n + 1) with h | h
  ·exact Hs R v ts hx n m (by omega)
  ·have e : m = n + 1 := by omega
   subst e
   exact NA n R v ts hx (Hs R v ts hx n)
end
end Go.Proofs.YtaogfdffgdglkaaGreatDoor
