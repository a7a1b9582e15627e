/- What is proved: a part of the walk of the program and of its plain laws; no condition beside those that each theorem names. -/
import Derived.Test.YtaogfdffgdglkaaGreatDoorVa
import Derived.Test.YtaogfdffgdglkaaGreatDoorVb
import Derived.Test.YtaogfdffgdglkaaGreatDoorYa
import Derived.Deep.RegionHeld3
namespace Go.Proofs.YtaogfdffgdglkaaGreatDoor
open Go Go.RowKit Go.Lib
set_option linter.unusedSimpArgs false
set_option linter.unusedVariables false
section
set_option maxRecDepth 100000
set_option maxHeartbeats 8000000
theorem Xe {α β : Type} (f : α -> List β) (l : List α) (j : Nat) (h : j < l.length) : (l.take (j + 1)).flatMap f = (l.take j).flatMap f ++ f l[j] := by
 rw [List.take_succ_eq_append_getElem h, List.flatMap_append]; simp
theorem Xl (z : Int) : (encodeRune z).length <= 4 := by
 have := Lib.runeCells_le z
 rw [<- Lib.byteCells_encodeRune, Lib.byteCells_length] at this
 exact this.2
theorem WG : ∀ zs : List Int, (zs.flatMap encodeRune).length <= 4 * zs.length
 | [] => by simp
 | z :: r => by
  have := WG r
  have := Xl z
  rw [List.flatMap_cons, List.length_append, List.length_cons]; omega
theorem WE (B b k n : Nat) (acc : List UInt8) (zs : List Int) (w : World) (h : Lib.IsBuilderF TB T8 B b (Lib.byteCells acc) w)
  (hk : w.heap[k]? = some (.cells (zs.map (Value.int .i32)).toArray 21 (0, 0))) (hn : zs.length = n) (hkb : k ≠ b) (hz : ∀ j, (hj : j < zs.length) -> 0 <= zs[j] /\ zs[j] <= 1114111) (hlen : acc.length + 4 * n <= 10000000) (hBw : B <= w.heap.size) :
  Calls Tryz.prog 33 #[.slice (some ⟨k, 0, none⟩) n n, .pointer (some ⟨b, 0, none⟩)] w fun e w' => e = .returned (.tuple #[]) /\ Lib.IsBuilderF TB T8 B b (Lib.byteCells (acc ++ zs.flatMap encodeRune)) w' /\ Below B w w' /\ Lib.OthersKept T8 (some b) w w' := by
 have HN := hid hn
 have hn' : n <= 10000000 := by omega
 clear hn
 go_enter Tryz.func33, Tryz.ntmps33
 go_wp2
 go_loopw [7] (fun i wr => ∃ j : Nat, j <= n /\ i = .int .i64 j /\ Lib.IsBuilderF TB T8 B b (Lib.byteCells (acc ++ (zs.take j).flatMap encodeRune)) wr /\ Below B w wr /\ Lib.OthersKept T8 (some b) w wr) (fun i _ => n - (intOf i).toNat)
 case atStart => exact ⟨0, by omega, rfl, by simpa using h, Bq _ _, Lib.OthersKept.refl _ _ _⟩
 case round =>
  obtain ⟨j, hj, rfl, hB, hb, ho⟩ := hrel
  by_cases hlt : j < n
  ·have hlti : (j : Int) < (n : Int) := by omega
   have hjz : j < zs.length := by rw [HN.out]; exact hlt
   have hkk : wr.heap[k]? = _ := ho k _ hk (fun e => hkb (Option.some.inj e)) (fun c fz e => by injection e with _ e; exact absurd e (by decide))
   have hc : wr.cell? ⟨k, j, none⟩ = some (.int .i32 zs[j]) := by
    rw [cell_of_row wr k j _ 21 (0, 0) hkk]
    simp [hjz]
   obtain ⟨z0, z1⟩ := hz j hjz
   have hft := Xe encodeRune zs j hjz
   obtain ⟨z, hzz⟩ : ∃ z, zs[j] = z := ⟨_, rfl⟩
   rw [hzz] at hc z0 z1 hft
   have hle := WG (zs.take j)
   rw [List.length_take, Nat.min_eq_left (by omega)] at hle
   have hlen2 : (Lib.byteCells (acc ++ (zs.take j).flatMap encodeRune)).length + 4 <= 140737488355328 := by rw [Lib.byteCells_length, List.length_append]; omega
   have hW := M6 B b _ z (by omega) (by omega) wr hB hlen2 (by have := hb.size; omega)
   rw [<- Lib.byteCells_encodeRune, <- Lib.byteCells_append, List.append_assoc, <- hft] at hW
   clear hft hzz hkk hle hlen2 hB hz hjz
   go_wp2_with fail
   refine hW.mono ?_
   rintro e w1 ⟨rfl, hB1, hb1, ho1⟩
   clear hW
   go_wp2
   go_roundw
   case rel => exact ⟨j + 1, by omega, by go_num, .inr hB1, hb.trans hb1, ho.trans ho1⟩
   case measure => simp [intOf]; omega
  ·have hge : ¬ (j : Int) < (n : Int) := by omega
   have hjn : j = n := by omega
   have HJ := hid hjn
   clear hjn
   go_wp2
   go_end0
   refine ⟨rfl, ?_, hb, ho⟩
   have : zs.take j = zs := List.take_of_length_le (by rw [HN.out, HJ.out]; omega)
   rw [this] at hB
   exact hB
def WF (l : List UInt8) : Value := if validD l then .tuple #[.string ⟨(Aw l).toArray⟩, .int .i64 0] else .tuple #[.string ⟨#[]⟩, .int .i64 40]
theorem WV {r : Int} (h1 : r ≠ 10) (h2 : r ≠ 9) (h3 : r ≠ 13) : BH r Ho = none := by
 have e1 : (r == 10) = false := by simpa using h1
 have e2 : (r == 9) = false := by simpa using h2
 have e3 : (r == 13) = false := by simpa using h3
 simp [Ho, BH, e1, e2, e3]
theorem WR (w : World) (b : Nat) (r : Int) (hb : w.heap[b]? = some (C5 3)) :
  (Instr.lookup 98 (.map (some b)) (.int .i32 r) true).run Tryz.prog w = .ok (.tuple #[(BH r Ho).getD (.int .i32 0), .bool (BH r Ho).isSome]) w :=
 D2 (P := Tryz.prog) (enc := NX) V2 U0 (k := 21) (e := 21) (l := Ho) (z := .int .i32 0) Tryz.underlying98 Tryz.underlying21 (by kernel_rfl) hb r true
theorem WU (r : Nat) : (Cl r).length <= 4 := by
 unfold Cl
 repeat' split
 all_goals first | exact Xl _ | simp
theorem Xn (r : Int) (zs : List Int) (n cap : Nat) (w : World) (hn : zs.length = n) (hs : n <= 1000) :
  Calls Tryz.prog 36 #[.int .i32 r, .slice (some ⟨w.heap.size, 0, none⟩) n cap] (w.alloc (.cells (zs.map (Value.int .i32)).toArray 21)) fun e w' => e = .returned (.bool (BT zs r)) /\ w' = w.alloc (.cells (zs.map (Value.int .i32)).toArray 21) := by
 refine (R0 r zs w.heap.size n cap _ hn hs (fun i hi => ?_)).mono (fun e w' h => ⟨h.1, h.2.symm⟩)
 have h := Wn w (.cells (zs.map (Value.int .i32)).toArray 21)
 unfold World.cell?
 rw [h]
 simp [show i < zs.length by omega]
theorem W9 (n : Nat) (h : n < 128) : encodeRune (n : Int) = [UInt8.ofNat n] := by
 unfold encodeRune
 rw [encodeRuneZ_one (by omega) (by omega)]
 simp
theorem WC {w : World} {M : Nat} (hM : w.heap.size = M) (cs : Array Value) (T : TypeId) : (w.alloc (.cells cs T)).heap[M]? = some (.cells cs T (0, 0)) := by rw [<- hM]; exact Wn _ _
theorem Os {w : World} {I : Nat} {s : ByteArray} {pos : Nat} (h : w.heap[I]? = some (.stringIter s pos)) (o : Obj) : (w.alloc o).heap[I]? = some (.stringIter s pos) :=
 Aa h ((Bq w.heap.size w).alloc Nr o)
theorem WT (a b : Int) (ha : 0 <= a /\ a <= 1114111) (hb : 0 <= b /\ b <= 1114111) : ∀ j, (hj : j < [a, b].length) -> 0 <= [a, b][j] /\ [a, b][j] <= 1114111
 | 0, _ => ha
 | 1, _ => hb
theorem Xi {a b : Nat} (ha : a < 128) (hb : b < 128) : ([(a : Int), (b : Int)] : List Int).flatMap encodeRune = [UInt8.ofNat a, UInt8.ofNat b] := by
 simp [List.flatMap_cons, W9 a ha, W9 b hb]
theorem WP {b : Nat} (hb : b < 128) : ([92, (b : Int)] : List Int).flatMap encodeRune = [92, UInt8.ofNat b] := Xi (a := 92) (by decide) hb
theorem Xo : ∀ r : Fin 128, bits BinOp.and IntKind.i32 ((r.val : Nat) : Int) 15 = ((r.val % 16 : Nat) : Int) := by decide +kernel
theorem Xm : ∀ (q : Fin 16) (h : q.val < (⟨#[48, 49, 50, 51, 52, 53, 54, 55, 56, 57, 97, 98, 99, 100, 101, 102]⟩ : ByteArray).size), (⟨#[48, 49, 50, 51, 52, 53, 54, 55, 56, 57, 97, 98, 99, 100, 101, 102]⟩ : ByteArray)[q.val]'h = D4 q.val := by decide +kernel
theorem Xf (a b c d : Int) (ha : 0 <= a /\ a <= 1114111) (hb : 0 <= b /\ b <= 1114111) (hc : 0 <= c /\ c <= 1114111) (hd : 0 <= d /\ d <= 1114111) : ∀ j, (hj : j < [a, b, c, d].length) -> 0 <= [a, b, c, d][j] /\ [a, b, c, d][j] <= 1114111
 | 0, _ => ha
 | 1, _ => hb
 | 2, _ => hc
 | 3, _ => hd
theorem Xc {a b : UInt8} (ha : a.toNat < 128) (hb : b.toNat < 128) : ([92, 120, (a.toNat : Int), (b.toNat : Int)] : List Int).flatMap encodeRune = [92, 120, a, b] := by
 have h1 : encodeRune 92 = [92] := W9 92 (by decide)
 have h2 : encodeRune 120 = [120] := W9 120 (by decide)
 simp [List.flatMap_cons, h1, h2, W9 _ ha, W9 _ hb]
theorem WZ : ∀ r : Fin 128, IntKind.i32.wrap ((r.val : Nat) : Int) = ((r.val : Nat) : Int) := by decide +kernel
theorem WS {B b : Nat} {bs : List Value} {w : World} (h : Lib.IsBuilderF TB T8 B b bs w) : Lib.IsBuilderF TB T8 B b bs w.drew := h
def Xp (s : ByteArray) (N I : Nat) (w0 wr : World) : Prop :=
 ∃ (pos : Nat) (acc : List UInt8), pos <= s.size /\ wr.heap[I]? = some (.stringIter s pos) /\ Lib.IsBuilderF TB T8 N N (Lib.byteCells acc) wr /\ Below N w0 wr ∧
  Hid (acc.length <= 4 * pos + 1 /\ validD (s.data.toList.drop pos) = true /\ Aw s.data.toList = acc ++ ((AH (s.data.toList.drop pos)).flatMap Cl ++ [34]))
theorem WO (s : ByteArray) (w : World) (hs : s.size <= 100000) (hT : Bz w) :
  Calls Tryz.prog 19 #[.string s] w fun e w' => e = .returned (WF s.data.toList) /\ Below w.heap.size w w' := by
 have hR := Cg s w (by omega) hT
 cases hv : validD s.data.toList with
 | false =>
  rw [hv] at hR
  have HV := hid (show WF s.data.toList = .tuple #[.string ⟨#[]⟩, .int .i64 40] by unfold WF; rw [hv]; rfl)
  clear hv
  go_enter Tryz.func19, Tryz.ntmps19
  go_wp2_with fail
  refine hR.mono ?_
  rintro e w1 ⟨rfl, hb1⟩
  clear hR
  go_wp2
  go_ret2
  exact ⟨by rw [HV.out]; rfl, hb1⟩
 | true =>
  rw [hv] at hR
  have HV := hid (show WF s.data.toList = .tuple #[.string ⟨(Aw s.data.toList).toArray⟩, .int .i64 0] by unfold WF; rw [hv]; rfl)
  have HVD := hid hv
  clear hv
  go_enter Tryz.func19, Tryz.ntmps19
  go_wp2_with fail
  refine hR.mono ?_
  rintro e w1 ⟨rfl, hb1⟩
  clear hR
  obtain ⟨N, hN⟩ : ∃ N, w1.heap.size = N := ⟨_, rfl⟩
  have hI0 : Lib.IsBuilderF TB T8 N N (Lib.byteCells []) (w1.alloc (.cells #[.pointer none, .slice none 0 0] TB)) := .inl ⟨Nat.le_refl _, .slice none 0 0, by rw [<- hN]; exact Wn _ _, World.ownsRowF_nil _ _ _ _, by simp [Value.ownBlock]⟩
  replace hI0 := hI0.alloc (.cells #[.int .i32 34] 21)
  have hb2 : Below N w1 ((w1.alloc (.cells #[.pointer none, .slice none 0 0] TB)).alloc (.cells #[.int .i32 34] 21)) := ((Bq N w1).alloc (by omega) _).alloc (by simp; omega) _
  have hh : ((w1.alloc (.cells #[.pointer none, .slice none 0 0] TB)).alloc (.cells #[.int .i32 34] 21)).heap[N + 1]? = some (.cells #[.int .i32 34] 21 (0, 0)) := WC (by rw [World.size_alloc, hN]) _ _
  have hL := WE N N (N + 1) 1 [] [34] _ hI0 hh rfl (by omega) (fun j hj => by simp at hj; subst hj; simp) (by simp) (by simp; omega)
  clear hI0 hh
  go_wp2_with fail
  refine hL.mono ?_
  rintro e w2 ⟨rfl, hB2, hb3, ho3⟩
  replace hb2 := hb2.trans hb3
  have hz := hb3.size
  rw [World.size_alloc, World.size_alloc, hN] at hz
  rw [show ([] ++ ([34] : List Int).flatMap encodeRune : List UInt8) = [34] from by decide +kernel] at hB2
  clear hL hb3 ho3
  obtain ⟨I, hI⟩ : ∃ I, w2.heap.size = I := ⟨_, rfl⟩
  rw [hI] at hz
  have hb1' := hid hb1
  clear hb1
  go_wp2
  go_loopw [7] (fun _ wr => Xp s N I w1 wr) (fun _ wr => s.size - wr.iterPos I)
  case atStart => exact ⟨0, [34], by omega, by rw [<- hI]; exact World.iter_heap _ _ _, hB2.alloc (.stringIter s 0), hb2.alloc (by have := hb2.size; omega) _, hid ⟨by simp, by rw [List.drop_zero]; exact HVD.out, rfl⟩⟩
  case round =>
   obtain ⟨pos, acc, hp, hit, hB, hb, HI⟩ := hrel
   have hIr : I < wr.heap.size := (Gl hit)
   have hacc : acc.length <= 4 * s.size + 1 := by have := HI.out.1; omega
   obtain ⟨M, hM⟩ : ∃ M, wr.heap.size = M := ⟨_, rfl⟩
   have hIM : I < M := by omega
   by_cases hlt : pos < s.size
   ·have hnx := fun ty => run_next_any_at (P := Tryz.prog) wr I s pos ty hit hlt
    have hbi := below_iterAt hb (show N <= I by omega) s (pos + (Utf8.decode s pos).2)
    have hit1 := iterAt_heap wr I s pos (pos + (Utf8.decode s pos).2) hit
    have hB1 := hB.iterAt hit (pos + (Utf8.decode s pos).2)
    have hw := Ce s pos hlt
    have hk1 : 1 <= (Utf8.decode s pos).2 := by rw [<- Lib.decodeL_drop]; exact decodeL_width _
    have hne := Dj s pos hlt
    have hv1 := HI.out.2.1
    have hq := HI.out.2.2
    rw [Cs _ hne, Lib.decodeL_drop, List.drop_drop, List.flatMap_cons] at hq
    have hvn := Gc _ hne hv1
    rw [Lib.decodeL_drop, List.drop_drop] at hvn
    have hsg : FN (Utf8.decode s pos).1 := by
     refine FY _ _ Nr hv1 _ ?_
     rw [Cs _ hne, Lib.decodeL_drop]; simp
    have hz1 : (wr.iterAt I s (pos + (Utf8.decode s pos).2)).heap.size = M := by rw [iterAt_size, hM]
    have HM1 := hid (CK hit)
    obtain ⟨⟨R, K⟩, hRK⟩ : ∃ x, Utf8.decode s pos = x := ⟨_, rfl⟩
    rw [hRK] at hnx hbi hit1 hB1 hw hk1 hq hvn hsg hz1
    simp only at hnx hbi hit1 hB1 hw hk1 hq hvn hsg hz1
    obtain ⟨W1, hW1⟩ : ∃ W, wr.iterAt I s (pos + K) = W := ⟨_, rfl⟩
    rw [hW1] at hnx hbi hit1 hB1 hz1
    have hR1 : (R : Int) <= 1114111 := by unfold FN at hsg; rw [GX] at hsg; omega
    have hfin : ∀ W', Lib.IsBuilderF TB T8 N N (Lib.byteCells (acc ++ Cl R)) W' -> W'.heap[I]? = some (.stringIter s (pos + K)) -> Below N w1 W' -> Xp s N I w1 W' := fun W' a b c =>
     ⟨pos + K, acc ++ Cl R, by omega, b, a, c, hid ⟨by rw [List.length_append]; have := WU R; have := HI.out.1; omega, hvn, by rw [hq]; simp⟩⟩
    have HFIN := hid hfin
    have HSG := hid hsg
    have hlk := WR (W1.alloc (C5 3)) M R (by rw [<- hz1]; exact Wn _ _)
    have hitA := Os hit1 (C5 3)
    have hBA := hB1.alloc (C5 3)
    have hbA : Below N w1 (W1.alloc (C5 3)) := hbi.alloc (by have := hbi.size; omega) _
    have hzA : (W1.alloc (C5 3)).heap.size = M + 1 := by rw [World.size_alloc, hz1]
    clear hRK hW1 hne hv1 hq hvn hsg hfin hit hB hb HI hM
    by_cases hsh : (R : Int) = 10 \/ (R : Int) = 9 \/ (R : Int) = 13
    ·have hx : ∃ (c : Nat), c < 128 /\ BH (R : Int) Ho = some (.int .i32 (c : Int)) /\ Cl R = [92, UInt8.ofNat c] := by
      rcases hsh with h | h | h
      ·obtain rfl : R = 10 := by omega
       exact ⟨110, by decide, rfl, rfl⟩
      ·obtain rfl : R = 9 := by omega
       exact ⟨116, by decide, rfl, rfl⟩
      ·obtain rfl : R = 13 := by omega
       exact ⟨114, by decide, rfl, rfl⟩
     obtain ⟨c, hc, hx1, hx2⟩ := hx
     rw [hx1] at hlk
     simp only [Option.getD_some, Option.isSome_some] at hlk
     have HX2 := hid hx2
     clear hsh hx1 hx2
     go_wp2_with fail
     refine (QC W1).mono ?_
     rintro e W2 ⟨rfl, hW2⟩
     subst hW2
     rw [hz1]
     obtain ⟨W2, hW2⟩ : ∃ W, W1.alloc (C5 3) = W := ⟨_, rfl⟩
     rw [hW2] at hlk hitA hBA hbA hzA |-
     clear hW2 hnx
     have hh := WC hzA #[.int .i32 92, .int .i32 (c : Int)] 21
     have hitB := Os hitA (.cells #[.int .i32 92, .int .i32 (c : Int)] 21)
     have hbB : Below N w1 (W2.alloc (.cells #[.int .i32 92, .int .i32 (c : Int)] 21)) := hbA.alloc (by have := hbA.size; omega) _
     have hL := WE N N (M + 1) 2 acc [92, (c : Int)] _ (hBA.alloc _) hh rfl (by omega) (WT 92 c (by omega) (by omega)) (by omega) (by rw [World.size_alloc, hzA]; omega)
     rw [WP hc, <- HX2.out] at hL
     clear hh hBA hbA hitA hB1 hit1 hbi
     go_wp2_with fail
     refine hL.mono ?_
     rintro e W3 ⟨rfl, hB3, hb3, ho3⟩
     have hit3 := ho3.iter hitB (by omega)
     have fin := HFIN.out W3 hB3 hit3 (hbB.trans hb3)
     have HM2 := hid (CK hit3)
     clear hL hB3 hb3 ho3 hit3 hbB hitB
     go_wp2
     go_roundw
     case rel => exact fin
     case measure => rw [HM1.out, HM2.out]; omega
    ·have hna := WV (fun e => hsh (.inl e)) (fun e => hsh (.inr (.inl e))) (fun e => hsh (.inr (.inr e)))
     rw [hna] at hlk
     simp only [Option.getD_none, Option.isSome_none] at hlk
     have HSH := hid hsh
     clear hsh hna
     go_wp2_with fail
     refine (QC W1).mono ?_
     rintro e W2 ⟨rfl, hW2⟩
     subst hW2
     rw [hz1]
     obtain ⟨W2, hW2⟩ : ∃ W, W1.alloc (C5 3) = W := ⟨_, rfl⟩
     rw [hW2] at hlk hitA hBA hbA hzA |-
     clear hW2 hnx
     have hQ := Xn (R : Int) [34, 92] 2 2 W2 rfl (by decide)
     rw [hzA] at hQ
     have hitB := Os hitA (.cells #[.int .i32 34, .int .i32 92] 21)
     have hbB : Below N w1 (W2.alloc (.cells #[.int .i32 34, .int .i32 92] 21)) := hbA.alloc (by have := hbA.size; omega) _
     have hBB := hBA.alloc (.cells #[.int .i32 34, .int .i32 92] 21)
     have hzB : (W2.alloc (.cells #[.int .i32 34, .int .i32 92] 21)).heap.size = M + 1 + 1 := by rw [World.size_alloc, hzA]
     obtain ⟨mm, hmm⟩ : ∃ b, BT [34, 92] (R : Int) = b := ⟨_, rfl⟩
     rw [hmm] at hQ
     have HMM := hid hmm
     clear hitA hbA hBA hB1 hit1 hbi hmm
     go_wp2_with fail
     refine hQ.mono ?_
     rintro e W3 ⟨rfl, hW3⟩
     clear hQ hlk
     replace hW3 : W3 = W2.alloc (.cells #[.int .i32 34, .int .i32 92] 21) := hW3
     rw [<- hW3] at hitB hbB hBB hzB
     clear hW3 hzA hz1
     cases mm with
     | true =>
      have hx2 : Cl R = [92, UInt8.ofNat R] /\ R < 128 := by
       have h1 := HMM.out
       have h2 : R = 34 \/ R = 92 := by unfold BT at h1; simp at h1; omega
       rcases h2 with rfl | rfl <;> exact ⟨rfl, by decide⟩
      have HX2 := hid hx2.1
      have hc := hx2.2
      clear hx2
      have hh := WC hzB #[.int .i32 92, .int .i32 (R : Int)] 21
      have hitC := Os hitB (.cells #[.int .i32 92, .int .i32 (R : Int)] 21)
      have hbC : Below N w1 (W3.alloc (.cells #[.int .i32 92, .int .i32 (R : Int)] 21)) := hbB.alloc (by have := hbB.size; omega) _
      have hL := WE N N (M + 1 + 1) 2 acc [92, (R : Int)] _ (hBB.alloc _) hh rfl (by omega) (WT 92 R (by omega) (by omega)) (by omega) (by rw [World.size_alloc, hzB]; omega)
      rw [WP hc, <- HX2.out] at hL
      clear hh hBB hbB hitB
      go_wp2_with fail
      refine hL.mono ?_
      rintro e W4 ⟨rfl, hB3, hb3, ho3⟩
      have hit3 := ho3.iter hitC (by omega)
      have fin := HFIN.out W4 hB3 hit3 (hbC.trans hb3)
      have HM2 := hid (CK hit3)
      clear hL hB3 hb3 ho3 hit3 hbC hitC
      go_wp2
      go_roundw
      case rel => exact fin
      case measure => rw [HM1.out, HM2.out]; omega
     | false =>
      obtain ⟨pl, hpl⟩ : ∃ b, Ch (R : Int) = b := ⟨_, rfl⟩
      have hP := FU (R : Int) W3
      rw [hpl] at hP
      have HPL := hid hpl
      clear hpl
      go_wp2_with fail
      refine hP.mono ?_
      rintro e W4 ⟨rfl, hw4⟩
      subst hw4
      clear hP
      cases pl with
      | true =>
       have hx2 : Cl R = encodeRune (R : Int) := by
        have h1 := HMM.out
        have h2 := HSH.out
        have h3 : Aq R = true := HPL.out
        unfold BT at h1
        simp at h1
        unfold Cl
        rw [if_neg (by omega), if_neg (by omega), if_neg (by omega), if_neg (by omega), if_pos h3]
       have HX2 := hid hx2
       clear hx2
       have hh := WC hzB #[.int .i32 (R : Int)] 21
       have hitC := Os hitB (.cells #[.int .i32 (R : Int)] 21)
       have hbC : Below N w1 (W4.alloc (.cells #[.int .i32 (R : Int)] 21)) := hbB.alloc (by have := hbB.size; omega) _
       have hL := WE N N (M + 1 + 1) 1 acc [(R : Int)] _ (hBB.alloc _) hh rfl (by omega) (fun j hj => by simp at hj; subst hj; simp; omega) (by omega) (by rw [World.size_alloc, hzB]; omega)
       rw [show ([(R : Int)].flatMap encodeRune : List UInt8) = Cl R by rw [HX2.out]; simp] at hL
       clear hh hBB hbB hitB
       go_wp2_with fail
       refine hL.mono ?_
       rintro e W5 ⟨rfl, hB3, hb3, ho3⟩
       have hit3 := ho3.iter hitC (by omega)
       have fin := HFIN.out W5 hB3 hit3 (hbC.trans hb3)
       have HM2 := hid (CK hit3)
       clear hL hB3 hb3 ho3 hit3 hbC hitC
       go_wp2
       go_roundw
       case rel => exact fin
       case measure => rw [HM1.out, HM2.out]; omega
      | false =>
       have hR128 : R < 128 := Ks HPL.out
       have hx2 : Cl R = [92, 120, D4 (R / 16), D4 (R % 16)] := by
        have h1 := HMM.out
        have h2 := HSH.out
        have h3 : Aq R = false := HPL.out
        unfold BT at h1
        simp at h1
        unfold Cl
        rw [if_neg (by omega), if_neg (by omega), if_neg (by omega), if_neg (by omega), h3]
        rfl
       obtain ⟨p, hp⟩ : ∃ p, R / 16 = p := ⟨_, rfl⟩
       obtain ⟨q, hq⟩ : ∃ q, R % 16 = q := ⟨_, rfl⟩
       have hp16 : p < 16 := by omega
       have hq16 : q < 16 := by omega
       have hpI : (R : Int) / 16 = (p : Int) := by omega
       have hqI : bits BinOp.and IntKind.i32 (R : Int) 15 = (q : Int) := by rw [<- hq]; exact Xo ⟨R, hR128⟩
       rw [hp, hq] at hx2
       obtain ⟨a, ha, ha2⟩ : ∃ a, D4 p = a /\ ∀ h, (⟨#[48, 49, 50, 51, 52, 53, 54, 55, 56, 57, 97, 98, 99, 100, 101, 102]⟩ : ByteArray)[p]'h = a := ⟨D4 p, rfl, fun h => Xm ⟨p, hp16⟩ h⟩
       obtain ⟨b, hb, hb2⟩ : ∃ b, D4 q = b /\ ∀ h, (⟨#[48, 49, 50, 51, 52, 53, 54, 55, 56, 57, 97, 98, 99, 100, 101, 102]⟩ : ByteArray)[q]'h = b := ⟨D4 q, rfl, fun h => Xm ⟨q, hq16⟩ h⟩
       have ha128 : a.toNat < 128 := by rw [<- ha]; exact (Pq ⟨p, hp16⟩).2.1
       have hb128 : b.toNat < 128 := by rw [<- hb]; exact (Pq ⟨q, hq16⟩).2.1
       rw [ha, hb] at hx2
       have HX2 := hid hx2
       have hpi : (p : Int) < 16 := by omega
       have hqi : (q : Int) < 16 := by omega
       clear hx2 hp hq ha hb hR128
       have hwa : IntKind.i32.wrap (a.toNat : Int) = (a.toNat : Int) := WZ ⟨a.toNat, ha128⟩
       have hwb : IntKind.i32.wrap (b.toNat : Int) = (b.toNat : Int) := WZ ⟨b.toNat, hb128⟩
       have hh : (W4.alloc (.cells #[.int .i32 92, .int .i32 120, .int .i32 (a.toNat : Int), .int .i32 (b.toNat : Int)] 21)).drew.heap[M + 1 + 1]? = _ := WC (w := W4) (M := M + 1 + 1) hzB #[.int .i32 92, .int .i32 120, .int .i32 (a.toNat : Int), .int .i32 (b.toNat : Int)] 21
       have hitC : (W4.alloc (.cells #[.int .i32 92, .int .i32 120, .int .i32 (a.toNat : Int), .int .i32 (b.toNat : Int)] 21)).drew.heap[I]? = some (.stringIter s (pos + K)) := Os (w := W4) hitB _
       have hNW : N <= W4.heap.size := by rw [hzB]; omega
       have hbC : Below N w1 (W4.alloc (.cells #[.int .i32 92, .int .i32 120, .int .i32 (a.toNat : Int), .int .i32 (b.toNat : Int)] 21)).drew := (hbB.alloc hNW _).drew
       have hBD : Lib.IsBuilderF TB T8 N N (Lib.byteCells acc) (W4.alloc (.cells #[.int .i32 92, .int .i32 120, .int .i32 (a.toNat : Int), .int .i32 (b.toNat : Int)] 21)).drew := WS (hBB.alloc _)
       have hL := WE N N (M + 1 + 1) 4 acc [92, 120, (a.toNat : Int), (b.toNat : Int)] (W4.alloc (.cells #[.int .i32 92, .int .i32 120, .int .i32 (a.toNat : Int), .int .i32 (b.toNat : Int)] 21)).drew hBD hh rfl (by omega) (Xf _ _ _ _ (by omega) (by omega) (by omega) (by omega)) (by omega) (by show N <= (W4.alloc (.cells #[.int .i32 92, .int .i32 120, .int .i32 (a.toNat : Int), .int .i32 (b.toNat : Int)] 21)).heap.size; rw [World.size_alloc]; omega)
       rw [show ([92, 120, (a.toNat : Int), (b.toNat : Int)] : List Int).flatMap encodeRune = Cl R by rw [HX2.out]; exact Xc ha128 hb128] at hL
       have HL := hid hL
       have HC := hid hitC
       have HB := hid hbC
       clear hh hBB hbB hitB hL hitC hbC hBD ha128 hb128
       go_wp2
       go_region_with ((refine HL.out.mono ?_; rintro e W5 ⟨rfl, hB3, hb3, ho3⟩))
       all_goals
        have hit3 := ho3.iter HC.out (by omega)
        have fin := HFIN.out _ hB3 hit3 (HB.out.trans hb3)
        have HM2 := hid (CK hit3)
        clear hB3 hb3 ho3 hit3
        go_wp2
        go_roundw
        case rel => exact fin
        case measure => rw [HM1.out, HM2.out]; omega
   ·have hnx := fun ty => run_next_end_at (P := Tryz.prog) wr I s pos ty hit hlt
    have hq := HI.out.2.2
    rw [List.drop_eq_nil_of_le (by rw [<- Lib.size_eq]; omega), P8, List.flatMap_nil, List.nil_append] at hq
    have HQ := hid hq
    have hh := WC hM #[.int .i32 34] 21
    have hbB : Below N w1 (wr.alloc (.cells #[.int .i32 34] 21)) := hb.alloc (by have := hb.size; omega) _
    have hL := WE N N M 1 acc [34] _ (hB.alloc _) hh rfl (by omega) (fun j hj => by simp at hj; subst hj; simp) (by omega) (by rw [World.size_alloc, hM]; omega)
    rw [show ([34] : List Int).flatMap encodeRune = [34] from by decide +kernel, <- HQ.out] at hL
    clear hq hh hb hB HI hit
    go_wp2_with fail
    refine hL.mono ?_
    rintro e W2 ⟨rfl, hB2, hb3, ho3⟩
    have hb4 := hbB.trans hb3
    clear hL hnx hb3 ho3 hbB
    go_wp2_with fail
    refine (Tryz.Builder_String_any_k N N _ W2 hB2 (by have := hb4.size; omega)).mono ?_
    rintro e W3 ⟨rfl, hB3, hb5, ho5⟩
    have hfb := hb1'.out.trans ((hN ▸ hb4.trans hb5 : Below w1.heap.size w1 W3).mono (by have := hb1'.out.size; omega))
    clear hB3 ho5
    go_wp2
    go_ret2
    exact ⟨by rw [HV.out]; rfl, hfb⟩
end
section
theorem Xa : ∀ rs : List Nat, (rs.flatMap Cl).length <= 4 * rs.length
 | [] => by simp
 | r :: rs => by
  have h1 := WU r
  have h2 := Xa rs
  rw [List.flatMap_cons, List.length_append, List.length_cons]; omega
theorem WW : ∀ (n : Nat) (l : List UInt8), l.length <= n -> (AH l).length <= l.length
 | n, [], _ => by simp [P8]
 | 0, c :: t, h => by simp at h
 | n + 1, c :: t, h => by
  have hne : c :: t ≠ [] := by simp
  have hw := decodeL_width (c :: t)
  have hl : (c :: t).length <= n + 1 := h
  have ih := WW n ((c :: t).drop (decodeL (c :: t)).2) (by rw [List.length_drop]; omega)
  rw [List.length_drop] at ih
  rw [Cs _ hne, List.length_cons]
  have : 0 < (c :: t).length := by simp
  omega
theorem Pl (l : List UInt8) : (Aw l).length <= 4 * l.length + 2 := by
 have h1 := Xa (AH l)
 have h2 := WW _ l Nr
 unfold Aw
 simp only [List.length_cons, List.length_append, List.length_nil]
 omega
def WX (ls : List (List UInt8)) : List UInt8 := ls.flatMap fun l => Aw l ++ [44, 32]
theorem WN : ∀ ls : List (List UInt8), Gw ls = WX ls ++ [93]
 | [] => rfl
 | l :: r => by
  rw [Gw, WN r]
  unfold WX
  simp
theorem Xd (ls : List (List UInt8)) (l : List UInt8) : WX (ls ++ [l]) = WX ls ++ (Aw l ++ [44, 32]) := by
 unfold WX; simp
def Dqz : Nat -> List (List UInt8) -> List Sc
 | _, [] => []
 | i, l :: r => ⟨(i : Int) + 1, 0, ⟨(Mm (Aw l)).toArray⟩⟩ :: Dqz (i + 1) r
theorem WK : ∀ (i : Nat) (ls : List (List UInt8)), (Dqz i ls).map B7 = Nf i ls
 | _, [] => rfl
 | i, l :: r => by rw [Dqz, List.map_cons, WK (i + 1) r]; rfl
theorem WA : ∀ (i : Nat) (ls : List (List UInt8)), (Dqz i ls).length = ls.length
 | _, [] => rfl
 | i, l :: r => by rw [Dqz, List.length_cons, WA (i + 1) r]; rfl
theorem WJ : ∀ (i : Nat) (ls : List (List UInt8)) (l : List UInt8), Dqz i (ls ++ [l]) = Dqz i ls ++ [⟨((i + ls.length : Nat) : Int) + 1, 0, ⟨(Mm (Aw l)).toArray⟩⟩]
 | i, [], l => rfl
 | i, x :: r, l => by
  rw [List.cons_append, Dqz, WJ (i + 1) r l, Dqz, List.cons_append, List.length_cons, show i + 1 + r.length = i + (r.length + 1) by omega]
theorem WI : ∀ (i : Nat) (ls : List (List UInt8)), (∀ l ∈ ls, l.length <= 40) -> ∀ x ∈ Dqz i ls, x.str.size <= 400
 | _, [], _ => fun x hx => by cases hx
 | i, l :: r, h => fun x hx => by
  rcases List.mem_cons.1 hx with rfl | hx
  ·have h1 := Pl l
   have h2 := h l List.mem_cons_self
   show (⟨(Mm (Aw l)).toArray⟩ : ByteArray).size <= 400
   rw [CB]
   unfold Mm
   simp only [List.length_cons]
   omega
  ·exact WI (i + 1) r (fun y hy => h y (List.mem_cons_of_mem _ hy)) x hx
theorem Xj (l : List UInt8) : Sm 1000000 (DS l) := by
 unfold DS EO
 simp [Sm, Sm.SmTs]
theorem WD (l : List UInt8) : ∃ (T : ByteArray) (e : Int), WF l = .tuple #[.string T, .int .i64 e] /\ ((e = 40 /\ T = ⟨#[]⟩) \/ (e = 0 /\ validD l = true /\ T.data.toList = Aw l)) := by
 unfold WF
 cases hv : validD l with
 | true => exact ⟨_, 0, rfl, .inr ⟨rfl, rfl, rfl⟩⟩
 | false => exact ⟨_, 40, rfl, .inl ⟨rfl, rfl⟩⟩
def WY (ls : List (List UInt8 × List UInt8)) : List UInt8 := ls.flatMap fun x => Aw x.1 ++ 58 :: 32 :: (Aw x.2 ++ [44, 32])
theorem WQ : ∀ ls : List (List UInt8 × List UInt8), G1 ls = WY ls ++ [125]
 | [] => rfl
 | x :: r => by
  rw [G1, WQ r]
  unfold WY
  simp
theorem Xb (ls : List (List UInt8 × List UInt8)) (x : List UInt8 × List UInt8) : WY (ls ++ [x]) = WY ls ++ (Aw x.1 ++ 58 :: 32 :: (Aw x.2 ++ [44, 32])) := by
 unfold WY; simp
def Dpz : Nat -> List (List UInt8 × List UInt8) -> List Sc
 | _, [] => []
 | i, x :: r => ⟨(i : Int) + 1, 0, ⟨(N1 x.1 x.2).toArray⟩⟩ :: Dpz (i + 2) r
theorem WH : ∀ (i : Nat) (ls : List (List UInt8 × List UInt8)), (Dpz i ls).map B7 = Ms i ls
 | _, [] => rfl
 | i, x :: r => by rw [Dpz, List.map_cons, WH (i + 2) r]; rfl
theorem WB : ∀ (i : Nat) (ls : List (List UInt8 × List UInt8)), (Dpz i ls).length = ls.length
 | _, [] => rfl
 | i, x :: r => by rw [Dpz, List.length_cons, WB (i + 2) r]; rfl
theorem WL : ∀ (i : Nat) (ls : List (List UInt8 × List UInt8)) (x : List UInt8 × List UInt8), Dpz i (ls ++ [x]) = Dpz i ls ++ [⟨((i + 2 * ls.length : Nat) : Int) + 1, 0, ⟨(N1 x.1 x.2).toArray⟩⟩]
 | i, [], x => rfl
 | i, y :: r, x => by
  rw [List.cons_append, Dpz, WL (i + 2) r x, Dpz, List.cons_append, List.length_cons, show i + 2 + 2 * r.length = i + 2 * (r.length + 1) by omega]
theorem WM : ∀ (i : Nat) (ls : List (List UInt8 × List UInt8)), (∀ x ∈ ls, x.1.length <= 40 /\ x.2.length <= 40) -> ∀ x ∈ Dpz i ls, x.str.size <= 400
 | _, [], _ => fun x hx => by cases hx
 | i, y :: r, h => fun x hx => by
  rcases List.mem_cons.1 hx with rfl | hx
  ·have h1 := Pl y.1
   have h2 := Pl y.2
   have h3 := h y List.mem_cons_self
   show (⟨(N1 y.1 y.2).toArray⟩ : ByteArray).size <= 400
   rw [CB]
   unfold N1
   simp only [List.length_cons, List.length_append]
   omega
  ·exact WM (i + 2) r (fun z hz => h z (List.mem_cons_of_mem _ hz)) x hx
theorem Xg {w : World} {S : Nat -> Prop} {ks : List Sc} {ts : List Tr} {k xk xn : Int} {nm xs : ByteArray} {KA A : Option Addr} {kl kc l c : Nat} (h : Ao w S (BJ ks ts) (.agg #[.int .i64 k, .string nm, .int .i64 xk, .int .i64 xn, .string xs, .slice KA kl kc, .slice A l c])) : kl = ks.length := by
 unfold BJ at h
 rw [Ao] at h
 obtain ⟨kv, A', cap, e, ⟨B, c2, hk, _⟩, _⟩ := h
 simp only [Value.agg.injEq, Array.mk.injEq, List.cons.injEq, and_true] at e
 rw [hk] at e
 simp only [Value.slice.injEq] at e
 exact e.2.2.2.2.2.1.2.1
end
end Go.Proofs.YtaogfdffgdglkaaGreatDoor
