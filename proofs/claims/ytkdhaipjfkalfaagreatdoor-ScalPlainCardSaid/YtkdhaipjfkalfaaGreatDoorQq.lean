import Derived.Test.YtkdhaipjfkalfaaGreatDoorMq
import Derived.Deep.RegionHeld3
/- What is proved: package quote's Quote, at every text: its signs between quotes. -/
namespace Go.Proofs.YtkdhaipjfkalfaaGreatDoor
open Go Go.RowKit Go.Lib
set_option linter.unusedSimpArgs false
set_option linter.unusedVariables false

theorem flat_take {α β : Type} (f : α → List β) (l : List α) (j : Nat) (h : j < l.length) : (l.take (j + 1)).flatMap f = (l.take j).flatMap f ++ f l[j] := by
  rw [List.take_succ_eq_append_getElem h, List.flatMap_append]; simp
theorem enc_le (z : Int) : (encodeRune z).length ≤ 4 := by
  have := Lib.runeCells_le z
  rw [← Lib.byteCells_encodeRune, Lib.byteCells_length] at this
  exact this.2
theorem flat_enc_le : ∀ zs : List Int, (zs.flatMap encodeRune).length ≤ 4 * zs.length
  | [] => by simp
  | z :: r => by
    have := flat_enc_le r
    have := enc_le z
    rw [List.flatMap_cons, List.length_append, List.length_cons]; omega

set_option maxRecDepth 100000 in
set_option maxHeartbeats 2000000 in
theorem lay_any (B b k n : Nat) (acc : List UInt8) (zs : List Int) (w : World) (h : Lib.IsBuilderF TB T8 B b (Lib.byteCells acc) w)
    (hk : w.heap[k]? = some (.cells (zs.map (Value.int .i32)).toArray 21 (0, 0))) (hn : zs.length = n) (hkb : k ≠ b) (hz : ∀ j, (hj : j < zs.length) → 0 ≤ zs[j] ∧ zs[j] ≤ 1114111) (hlen : acc.length + 4 * n ≤ 10000000) (hBw : B ≤ w.heap.size) :
    Calls Tryz.prog 73 #[.slice (some ⟨k, 0, none⟩) n n, .pointer (some ⟨b, 0, none⟩)] w fun e w' => e = .returned (.tuple #[]) ∧ Lib.IsBuilderF TB T8 B b (Lib.byteCells (acc ++ zs.flatMap encodeRune)) w' ∧ Below B w w' ∧ Lib.OthersKept T8 (some b) w w' := by
  have HN := hid hn
  have hn' : n ≤ 10000000 := by omega
  clear hn
  go_enter Tryz.func73, Tryz.ntmps73
  go_wp2
  go_loopw [7] (fun i wr => ∃ j : Nat, j ≤ n ∧ i = .int .i64 j ∧ Lib.IsBuilderF TB T8 B b (Lib.byteCells (acc ++ (zs.take j).flatMap encodeRune)) wr ∧ Below B w wr ∧ Lib.OthersKept T8 (some b) w wr) (fun i _ => n - (intOf i).toNat)
  case atStart => exact ⟨0, by omega, rfl, by simpa using h, Below.refl _ _, Lib.OthersKept.refl _ _ _⟩
  case round =>
    obtain ⟨j, hj, rfl, hB, hb, ho⟩ := hrel
    by_cases hlt : j < n
    · have hlti : (j : Int) < (n : Int) := by omega
      have hjz : j < zs.length := by rw [HN.out]; exact hlt
      have hkk : wr.heap[k]? = _ := ho k _ hk (fun e => hkb (Option.some.inj e)) (fun c fz e => by injection e with _ e; exact absurd e (by decide))
      have hc : wr.cell? ⟨k, j, none⟩ = some (.int .i32 zs[j]) := by
        rw [cell_of_row wr k j _ 21 (0, 0) hkk]
        simp [hjz]
      obtain ⟨z0, z1⟩ := hz j hjz
      have hft := flat_take encodeRune zs j hjz
      obtain ⟨z, hzz⟩ : ∃ z, zs[j] = z := ⟨_, rfl⟩
      rw [hzz] at hc z0 z1 hft
      have hle := flat_enc_le (zs.take j)
      rw [List.length_take, Nat.min_eq_left (by omega)] at hle
      have hlen2 : (Lib.byteCells (acc ++ (zs.take j).flatMap encodeRune)).length + 4 ≤ 140737488355328 := by rw [Lib.byteCells_length, List.length_append]; omega
      have hW := WriteRune_k B b _ z (by omega) (by omega) wr hB hlen2 (by have := hb.size; omega)
      rw [← Lib.byteCells_encodeRune, ← Lib.byteCells_append, List.append_assoc, ← hft] at hW
      clear hft hzz hkk hle hlen2 hB hz hjz
      go_wp2_with fail
      refine hW.mono ?_
      rintro e w1 ⟨rfl, hB1, hb1, ho1⟩
      clear hW
      go_wp2
      go_roundw
      case rel => exact ⟨j + 1, by omega, by go_num, .inr hB1, hb.trans hb1, ho.trans ho1⟩
      case measure => simp [intOf]; omega
    · have hge : ¬ (j : Int) < (n : Int) := by omega
      have hjn : j = n := by omega
      have HJ := hid hjn
      clear hjn
      go_wp2
      go_end0
      refine ⟨rfl, ?_, hb, ho⟩
      have : zs.take j = zs := List.take_of_length_le (by rw [HN.out, HJ.out]; omega)
      rw [this] at hB
      exact hB

def quoteV (l : List UInt8) : Value := if validD l then .tuple #[.string ⟨(quoteP l).toArray⟩, .int .i64 0] else .tuple #[.string ⟨#[]⟩, .int .i64 40]
theorem assoc_short {r : Int} (h1 : r ≠ 10) (h2 : r ≠ 9) (h3 : r ≠ 13) : assoc r shortL = none := by
  have e1 : (r == 10) = false := by simpa using h1
  have e2 : (r == 9) = false := by simpa using h2
  have e3 : (r == 13) = false := by simpa using h3
  simp [shortL, assoc, e1, e2, e3]
theorem lookup_short (w : World) (b : Nat) (r : Int) (hb : w.heap[b]? = some (shortObj 3)) :
    (Instr.lookup 91 (.map (some b)) (.int .i32 r) true).run Tryz.prog w = .ok (.tuple #[(assoc r shortL).getD (.int .i32 0), .bool (assoc r shortL).isSome]) w :=
  run_lookup_list (P := Tryz.prog) (enc := encR) sameR isKeyR (k := 21) (e := 21) (l := shortL) (z := .int .i32 0) Tryz.underlying91 Tryz.underlying21 (by kernel_rfl) hb r true
theorem qsign_le (r : Nat) : (qsign r).length ≤ 4 := by
  unfold qsign
  repeat' split
  all_goals first | exact enc_le _ | simp

theorem qOne_at (r : Int) (zs : List Int) (n cap : Nat) (w : World) (hn : zs.length = n) (hs : n ≤ 1000) :
    Calls Tryz.prog 76 #[.int .i32 r, .slice (some ⟨w.heap.size, 0, none⟩) n cap] (w.alloc (.cells (zs.map (Value.int .i32)).toArray 21)) fun e w' => e = .returned (.bool (memB zs r)) ∧ w' = w.alloc (.cells (zs.map (Value.int .i32)).toArray 21) := by
  refine (qOne_any r zs w.heap.size n cap _ hn hs (fun i hi => ?_)).mono (fun e w' h => ⟨h.1, h.2.symm⟩)
  have h := World.alloc_heap_new w (.cells (zs.map (Value.int .i32)).toArray 21)
  unfold World.cell?
  rw [h]
  simp [show i < zs.length by omega]
theorem enc_ascii (n : Nat) (h : n < 128) : encodeRune (n : Int) = [UInt8.ofNat n] := by
  unfold encodeRune
  rw [encodeRuneZ_one (by omega) (by omega)]
  simp
/-- A row that was laid last. -/
theorem row_last {w : World} {M : Nat} (hM : w.heap.size = M) (cs : Array Value) (T : TypeId) : (w.alloc (.cells cs T)).heap[M]? = some (.cells cs T (0, 0)) := by rw [← hM]; exact World.alloc_heap_new _ _
theorem iter_alloc {w : World} {I : Nat} {s : ByteArray} {pos : Nat} (h : w.heap[I]? = some (.stringIter s pos)) (o : Obj) : (w.alloc o).heap[I]? = some (.stringIter s pos) :=
  heap_below h ((Below.refl w.heap.size w).alloc (Nat.le_refl _) o)

theorem two_sign (a b : Int) (ha : 0 ≤ a ∧ a ≤ 1114111) (hb : 0 ≤ b ∧ b ≤ 1114111) : ∀ j, (hj : j < [a, b].length) → 0 ≤ [a, b][j] ∧ [a, b][j] ≤ 1114111
  | 0, _ => ha
  | 1, _ => hb
theorem two_flat {a b : Nat} (ha : a < 128) (hb : b < 128) : ([(a : Int), (b : Int)] : List Int).flatMap encodeRune = [UInt8.ofNat a, UInt8.ofNat b] := by
  simp [List.flatMap_cons, enc_ascii a ha, enc_ascii b hb]
theorem two_flat9 {b : Nat} (hb : b < 128) : ([92, (b : Int)] : List Int).flatMap encodeRune = [92, UInt8.ofNat b] := two_flat (a := 92) (by decide) hb
theorem bits_15 : ∀ r : Fin 128, bits BinOp.and IntKind.i32 ((r.val : Nat) : Int) 15 = ((r.val % 16 : Nat) : Int) := by decide +kernel
theorem hex_at : ∀ (q : Fin 16) (h : q.val < (⟨#[48, 49, 50, 51, 52, 53, 54, 55, 56, 57, 97, 98, 99, 100, 101, 102]⟩ : ByteArray).size), (⟨#[48, 49, 50, 51, 52, 53, 54, 55, 56, 57, 97, 98, 99, 100, 101, 102]⟩ : ByteArray)[q.val]'h = hexC q.val := by decide +kernel
theorem four_sign (a b c d : Int) (ha : 0 ≤ a ∧ a ≤ 1114111) (hb : 0 ≤ b ∧ b ≤ 1114111) (hc : 0 ≤ c ∧ c ≤ 1114111) (hd : 0 ≤ d ∧ d ≤ 1114111) : ∀ j, (hj : j < [a, b, c, d].length) → 0 ≤ [a, b, c, d][j] ∧ [a, b, c, d][j] ≤ 1114111
  | 0, _ => ha
  | 1, _ => hb
  | 2, _ => hc
  | 3, _ => hd
theorem four_flat {a b : UInt8} (ha : a.toNat < 128) (hb : b.toNat < 128) : ([92, 120, (a.toNat : Int), (b.toNat : Int)] : List Int).flatMap encodeRune = [92, 120, a, b] := by
  have h1 : encodeRune 92 = [92] := enc_ascii 92 (by decide)
  have h2 : encodeRune 120 = [120] := enc_ascii 120 (by decide)
  simp [List.flatMap_cons, h1, h2, enc_ascii _ ha, enc_ascii _ hb]
theorem wrap_32 : ∀ r : Fin 128, IntKind.i32.wrap ((r.val : Nat) : Int) = ((r.val : Nat) : Int) := by decide +kernel
theorem builder_drew {B b : Nat} {bs : List Value} {w : World} (h : Lib.IsBuilderF TB T8 B b bs w) : Lib.IsBuilderF TB T8 B b bs w.drew := h
/-- What a round of Quote's loop holds. -/
def QRel (s : ByteArray) (N I : Nat) (w0 wr : World) : Prop :=
  ∃ (pos : Nat) (acc : List UInt8), pos ≤ s.size ∧ wr.heap[I]? = some (.stringIter s pos) ∧ Lib.IsBuilderF TB T8 N N (Lib.byteCells acc) wr ∧ Below N w0 wr ∧
    Hid (acc.length ≤ 4 * pos + 1 ∧ validD (s.data.toList.drop pos) = true ∧ quoteP s.data.toList = acc ++ ((runes (s.data.toList.drop pos)).flatMap qsign ++ [34]))

set_option maxRecDepth 100000 in
set_option maxHeartbeats 8000000 in
theorem Quote_any (s : ByteArray) (w : World) (hs : s.size ≤ 100000) (hT : Tabs w) :
    Calls Tryz.prog 49 #[.string s] w fun e w' => e = .returned (quoteV s.data.toList) ∧ Below w.heap.size w w' := by
  have hR := Right_any s w (by omega) hT
  cases hv : validD s.data.toList with
  | false =>
    rw [hv] at hR
    have HV := hid (show quoteV s.data.toList = .tuple #[.string ⟨#[]⟩, .int .i64 40] by unfold quoteV; rw [hv]; rfl)
    clear hv
    go_enter Tryz.func49, Tryz.ntmps49
    go_wp2_with fail
    refine hR.mono ?_
    rintro e w1 ⟨rfl, hb1⟩
    clear hR
    go_wp2
    go_ret2
    exact ⟨by rw [HV.out]; rfl, hb1⟩
  | true =>
    rw [hv] at hR
    have HV := hid (show quoteV s.data.toList = .tuple #[.string ⟨(quoteP s.data.toList).toArray⟩, .int .i64 0] by unfold quoteV; rw [hv]; rfl)
    have HVD := hid hv
    clear hv
    go_enter Tryz.func49, Tryz.ntmps49
    go_wp2_with fail
    refine hR.mono ?_
    rintro e w1 ⟨rfl, hb1⟩
    clear hR
    obtain ⟨N, hN⟩ : ∃ N, w1.heap.size = N := ⟨_, rfl⟩
    have hI0 : Lib.IsBuilderF TB T8 N N (Lib.byteCells []) (w1.alloc (.cells #[.pointer none, .slice none 0 0] TB)) := .inl ⟨Nat.le_refl _, .slice none 0 0, by rw [← hN]; exact World.alloc_heap_new _ _, World.ownsRowF_nil _ _ _ _, by simp [Value.ownBlock]⟩
    replace hI0 := hI0.alloc (.cells #[.int .i32 34] 21)
    have hb2 : Below N w1 ((w1.alloc (.cells #[.pointer none, .slice none 0 0] TB)).alloc (.cells #[.int .i32 34] 21)) := ((Below.refl N w1).alloc (by omega) _).alloc (by simp; omega) _
    have hh : ((w1.alloc (.cells #[.pointer none, .slice none 0 0] TB)).alloc (.cells #[.int .i32 34] 21)).heap[N + 1]? = some (.cells #[.int .i32 34] 21 (0, 0)) := row_last (by rw [World.size_alloc, hN]) _ _
    have hL := lay_any N N (N + 1) 1 [] [34] _ hI0 hh rfl (by omega) (fun j hj => by simp at hj; subst hj; simp) (by simp) (by simp; omega)
    clear hI0 hh
    go_wp2_with fail
    refine hL.mono ?_
    rintro e w2 ⟨rfl, hB2, hb3, ho3⟩
    replace hb2 := hb2.trans hb3
    have hz := hb3.size
    rw [World.size_alloc, World.size_alloc, hN] at hz
    rw [show ([] ++ ([34] : List Int).flatMap encodeRune : List UInt8) = [34] from by decide +kernel] at hB2
    clear hL hb3 ho3
    obtain ⟨I, hI⟩ : ∃ I, w2.heap.size = I := ⟨_, rfl⟩
    rw [hI] at hz
    have hb1' := hid hb1
    clear hb1
    go_wp2
    go_loopw [7] (fun _ wr => QRel s N I w1 wr) (fun _ wr => s.size - wr.iterPos I)
    case atStart => exact ⟨0, [34], by omega, by rw [← hI]; exact World.iter_heap _ _ _, hB2.alloc (.stringIter s 0), hb2.alloc (by have := hb2.size; omega) _, hid ⟨by simp, by rw [List.drop_zero]; exact HVD.out, rfl⟩⟩
    case round =>
      obtain ⟨pos, acc, hp, hit, hB, hb, HI⟩ := hrel
      have hIr : I < wr.heap.size := (Array.getElem?_eq_some_iff.1 hit).1
      have hacc : acc.length ≤ 4 * s.size + 1 := by have := HI.out.1; omega
      obtain ⟨M, hM⟩ : ∃ M, wr.heap.size = M := ⟨_, rfl⟩
      have hIM : I < M := by omega
      by_cases hlt : pos < s.size
      · have hnx := fun ty => run_next_any_at (P := Tryz.prog) wr I s pos ty hit hlt
        have hbi := below_iterAt hb (show N ≤ I by omega) s (pos + (Utf8.decode s pos).2)
        have hit1 := iterAt_heap wr I s pos (pos + (Utf8.decode s pos).2) hit
        have hB1 := hB.iterAt hit (pos + (Utf8.decode s pos).2)
        have hw := decode_le s pos hlt
        have hk1 : 1 ≤ (Utf8.decode s pos).2 := by rw [← Lib.decodeL_drop]; exact decodeL_width _
        have hne := drop_ne s pos hlt
        have hv1 := HI.out.2.1
        have hq := HI.out.2.2
        rw [runes_step _ hne, Lib.decodeL_drop, List.drop_drop, List.flatMap_cons] at hq
        have hvn := valid_drop _ hne hv1
        rw [Lib.decodeL_drop, List.drop_drop] at hvn
        have hsg : SignN (Utf8.decode s pos).1 := by
          refine runes_sign _ _ (Nat.le_refl _) hv1 _ ?_
          rw [runes_step _ hne, Lib.decodeL_drop]; simp
        have hz1 : (wr.iterAt I s (pos + (Utf8.decode s pos).2)).heap.size = M := by rw [iterAt_size, hM]
        have HM1 := hid (iter_pos hit)
        obtain ⟨⟨R, K⟩, hRK⟩ : ∃ x, Utf8.decode s pos = x := ⟨_, rfl⟩
        rw [hRK] at hnx hbi hit1 hB1 hw hk1 hq hvn hsg hz1
        simp only at hnx hbi hit1 hB1 hw hk1 hq hvn hsg hz1
        obtain ⟨W1, hW1⟩ : ∃ W, wr.iterAt I s (pos + K) = W := ⟨_, rfl⟩
        rw [hW1] at hnx hbi hit1 hB1 hz1
        have hR1 : (R : Int) ≤ 1114111 := by unfold SignN at hsg; rw [signP_iff] at hsg; omega
        have hfin : ∀ W', Lib.IsBuilderF TB T8 N N (Lib.byteCells (acc ++ qsign R)) W' → W'.heap[I]? = some (.stringIter s (pos + K)) → Below N w1 W' → QRel s N I w1 W' := fun W' a b c =>
          ⟨pos + K, acc ++ qsign R, by omega, b, a, c, hid ⟨by rw [List.length_append]; have := qsign_le R; have := HI.out.1; omega, hvn, by rw [hq]; simp⟩⟩
        have HFIN := hid hfin
        have HSG := hid hsg
        have hlk := lookup_short (W1.alloc (shortObj 3)) M R (by rw [← hz1]; exact World.alloc_heap_new _ _)
        have hitA := iter_alloc hit1 (shortObj 3)
        have hBA := hB1.alloc (shortObj 3)
        have hbA : Below N w1 (W1.alloc (shortObj 3)) := hbi.alloc (by have := hbi.size; omega) _
        have hzA : (W1.alloc (shortObj 3)).heap.size = M + 1 := by rw [World.size_alloc, hz1]
        clear hRK hW1 hne hv1 hq hvn hsg hfin hit hB hb HI hM
        by_cases hsh : (R : Int) = 10 ∨ (R : Int) = 9 ∨ (R : Int) = 13
        · have hx : ∃ (c : Nat), c < 128 ∧ assoc (R : Int) shortL = some (.int .i32 (c : Int)) ∧ qsign R = [92, UInt8.ofNat c] := by
            rcases hsh with h | h | h
            · obtain rfl : R = 10 := by omega
              exact ⟨110, by decide, rfl, rfl⟩
            · obtain rfl : R = 9 := by omega
              exact ⟨116, by decide, rfl, rfl⟩
            · obtain rfl : R = 13 := by omega
              exact ⟨114, by decide, rfl, rfl⟩
          obtain ⟨c, hc, hx1, hx2⟩ := hx
          rw [hx1] at hlk
          simp only [Option.getD_some, Option.isSome_some] at hlk
          have HX2 := hid hx2
          clear hsh hx1 hx2
          go_wp2_with fail
          refine (short_any W1).mono ?_
          rintro e W2 ⟨rfl, hW2⟩
          subst hW2
          rw [hz1]
          obtain ⟨W2, hW2⟩ : ∃ W, W1.alloc (shortObj 3) = W := ⟨_, rfl⟩
          rw [hW2] at hlk hitA hBA hbA hzA ⊢
          clear hW2 hnx
          have hh := row_last hzA #[.int .i32 92, .int .i32 (c : Int)] 21
          have hitB := iter_alloc hitA (.cells #[.int .i32 92, .int .i32 (c : Int)] 21)
          have hbB : Below N w1 (W2.alloc (.cells #[.int .i32 92, .int .i32 (c : Int)] 21)) := hbA.alloc (by have := hbA.size; omega) _
          have hL := lay_any N N (M + 1) 2 acc [92, (c : Int)] _ (hBA.alloc _) hh rfl (by omega) (two_sign 92 c (by omega) (by omega)) (by omega) (by rw [World.size_alloc, hzA]; omega)
          rw [two_flat9 hc, ← HX2.out] at hL
          clear hh hBA hbA hitA hB1 hit1 hbi
          go_wp2_with fail
          refine hL.mono ?_
          rintro e W3 ⟨rfl, hB3, hb3, ho3⟩
          have hit3 := ho3.iter hitB (by omega)
          have fin := HFIN.out W3 hB3 hit3 (hbB.trans hb3)
          have HM2 := hid (iter_pos hit3)
          clear hL hB3 hb3 ho3 hit3 hbB hitB
          go_wp2
          go_roundw
          case rel => exact fin
          case measure => rw [HM1.out, HM2.out]; omega
        · have hna := assoc_short (fun e => hsh (.inl e)) (fun e => hsh (.inr (.inl e))) (fun e => hsh (.inr (.inr e)))
          rw [hna] at hlk
          simp only [Option.getD_none, Option.isSome_none] at hlk
          have HSH := hid hsh
          clear hsh hna
          go_wp2_with fail
          refine (short_any W1).mono ?_
          rintro e W2 ⟨rfl, hW2⟩
          subst hW2
          rw [hz1]
          obtain ⟨W2, hW2⟩ : ∃ W, W1.alloc (shortObj 3) = W := ⟨_, rfl⟩
          rw [hW2] at hlk hitA hBA hbA hzA ⊢
          clear hW2 hnx
          have hQ := qOne_at (R : Int) [34, 92] 2 2 W2 rfl (by decide)
          rw [hzA] at hQ
          have hitB := iter_alloc hitA (.cells #[.int .i32 34, .int .i32 92] 21)
          have hbB : Below N w1 (W2.alloc (.cells #[.int .i32 34, .int .i32 92] 21)) := hbA.alloc (by have := hbA.size; omega) _
          have hBB := hBA.alloc (.cells #[.int .i32 34, .int .i32 92] 21)
          have hzB : (W2.alloc (.cells #[.int .i32 34, .int .i32 92] 21)).heap.size = M + 1 + 1 := by rw [World.size_alloc, hzA]
          obtain ⟨mm, hmm⟩ : ∃ b, memB [34, 92] (R : Int) = b := ⟨_, rfl⟩
          rw [hmm] at hQ
          have HMM := hid hmm
          clear hitA hbA hBA hB1 hit1 hbi hmm
          go_wp2_with fail
          refine hQ.mono ?_
          rintro e W3 ⟨rfl, hW3⟩
          clear hQ hlk
          replace hW3 : W3 = W2.alloc (.cells #[.int .i32 34, .int .i32 92] 21) := hW3
          rw [← hW3] at hitB hbB hBB hzB
          clear hW3 hzA hz1
          cases mm with
          | true =>
            have hx2 : qsign R = [92, UInt8.ofNat R] ∧ R < 128 := by
              have h1 := HMM.out
              have h2 : R = 34 ∨ R = 92 := by unfold memB at h1; simp at h1; omega
              rcases h2 with rfl | rfl <;> exact ⟨rfl, by decide⟩
            have HX2 := hid hx2.1
            have hc := hx2.2
            clear hx2
            have hh := row_last hzB #[.int .i32 92, .int .i32 (R : Int)] 21
            have hitC := iter_alloc hitB (.cells #[.int .i32 92, .int .i32 (R : Int)] 21)
            have hbC : Below N w1 (W3.alloc (.cells #[.int .i32 92, .int .i32 (R : Int)] 21)) := hbB.alloc (by have := hbB.size; omega) _
            have hL := lay_any N N (M + 1 + 1) 2 acc [92, (R : Int)] _ (hBB.alloc _) hh rfl (by omega) (two_sign 92 R (by omega) (by omega)) (by omega) (by rw [World.size_alloc, hzB]; omega)
            rw [two_flat9 hc, ← HX2.out] at hL
            clear hh hBB hbB hitB
            go_wp2_with fail
            refine hL.mono ?_
            rintro e W4 ⟨rfl, hB3, hb3, ho3⟩
            have hit3 := ho3.iter hitC (by omega)
            have fin := HFIN.out W4 hB3 hit3 (hbC.trans hb3)
            have HM2 := hid (iter_pos hit3)
            clear hL hB3 hb3 ho3 hit3 hbC hitC
            go_wp2
            go_roundw
            case rel => exact fin
            case measure => rw [HM1.out, HM2.out]; omega
          | false =>
            obtain ⟨pl, hpl⟩ : ∃ b, plainN (R : Int) = b := ⟨_, rfl⟩
            have hP := qPlain_any (R : Int) W3
            rw [hpl] at hP
            have HPL := hid hpl
            clear hpl
            go_wp2_with fail
            refine hP.mono ?_
            rintro e W4 ⟨rfl, hw4⟩
            subst hw4
            clear hP
            cases pl with
            | true =>
              have hx2 : qsign R = encodeRune (R : Int) := by
                have h1 := HMM.out
                have h2 := HSH.out
                have h3 : plainRune R = true := HPL.out
                unfold memB at h1
                simp at h1
                unfold qsign
                rw [if_neg (by omega), if_neg (by omega), if_neg (by omega), if_neg (by omega), if_pos h3]
              have HX2 := hid hx2
              clear hx2
              have hh := row_last hzB #[.int .i32 (R : Int)] 21
              have hitC := iter_alloc hitB (.cells #[.int .i32 (R : Int)] 21)
              have hbC : Below N w1 (W4.alloc (.cells #[.int .i32 (R : Int)] 21)) := hbB.alloc (by have := hbB.size; omega) _
              have hL := lay_any N N (M + 1 + 1) 1 acc [(R : Int)] _ (hBB.alloc _) hh rfl (by omega) (fun j hj => by simp at hj; subst hj; simp; omega) (by omega) (by rw [World.size_alloc, hzB]; omega)
              rw [show ([(R : Int)].flatMap encodeRune : List UInt8) = qsign R by rw [HX2.out]; simp] at hL
              clear hh hBB hbB hitB
              go_wp2_with fail
              refine hL.mono ?_
              rintro e W5 ⟨rfl, hB3, hb3, ho3⟩
              have hit3 := ho3.iter hitC (by omega)
              have fin := HFIN.out W5 hB3 hit3 (hbC.trans hb3)
              have HM2 := hid (iter_pos hit3)
              clear hL hB3 hb3 ho3 hit3 hbC hitC
              go_wp2
              go_roundw
              case rel => exact fin
              case measure => rw [HM1.out, HM2.out]; omega
            | false =>
              have hR128 : R < 128 := not_plain HPL.out
              have hx2 : qsign R = [92, 120, hexC (R / 16), hexC (R % 16)] := by
                have h1 := HMM.out
                have h2 := HSH.out
                have h3 : plainRune R = false := HPL.out
                unfold memB at h1
                simp at h1
                unfold qsign
                rw [if_neg (by omega), if_neg (by omega), if_neg (by omega), if_neg (by omega), h3]
                rfl
              obtain ⟨p, hp⟩ : ∃ p, R / 16 = p := ⟨_, rfl⟩
              obtain ⟨q, hq⟩ : ∃ q, R % 16 = q := ⟨_, rfl⟩
              have hp16 : p < 16 := by omega
              have hq16 : q < 16 := by omega
              have hpI : (R : Int) / 16 = (p : Int) := by omega
              have hqI : bits BinOp.and IntKind.i32 (R : Int) 15 = (q : Int) := by rw [← hq]; exact bits_15 ⟨R, hR128⟩
              rw [hp, hq] at hx2
              obtain ⟨a, ha, ha2⟩ : ∃ a, hexC p = a ∧ ∀ h, (⟨#[48, 49, 50, 51, 52, 53, 54, 55, 56, 57, 97, 98, 99, 100, 101, 102]⟩ : ByteArray)[p]'h = a := ⟨hexC p, rfl, fun h => hex_at ⟨p, hp16⟩ h⟩
              obtain ⟨b, hb, hb2⟩ : ∃ b, hexC q = b ∧ ∀ h, (⟨#[48, 49, 50, 51, 52, 53, 54, 55, 56, 57, 97, 98, 99, 100, 101, 102]⟩ : ByteArray)[q]'h = b := ⟨hexC q, rfl, fun h => hex_at ⟨q, hq16⟩ h⟩
              have ha128 : a.toNat < 128 := by rw [← ha]; exact (hexC_16 ⟨p, hp16⟩).2.1
              have hb128 : b.toNat < 128 := by rw [← hb]; exact (hexC_16 ⟨q, hq16⟩).2.1
              rw [ha, hb] at hx2
              have HX2 := hid hx2
              have hpi : (p : Int) < 16 := by omega
              have hqi : (q : Int) < 16 := by omega
              clear hx2 hp hq ha hb hR128
              have hwa : IntKind.i32.wrap (a.toNat : Int) = (a.toNat : Int) := wrap_32 ⟨a.toNat, ha128⟩
              have hwb : IntKind.i32.wrap (b.toNat : Int) = (b.toNat : Int) := wrap_32 ⟨b.toNat, hb128⟩
              have hh : (W4.alloc (.cells #[.int .i32 92, .int .i32 120, .int .i32 (a.toNat : Int), .int .i32 (b.toNat : Int)] 21)).drew.heap[M + 1 + 1]? = _ := row_last (w := W4) (M := M + 1 + 1) hzB #[.int .i32 92, .int .i32 120, .int .i32 (a.toNat : Int), .int .i32 (b.toNat : Int)] 21
              have hitC : (W4.alloc (.cells #[.int .i32 92, .int .i32 120, .int .i32 (a.toNat : Int), .int .i32 (b.toNat : Int)] 21)).drew.heap[I]? = some (.stringIter s (pos + K)) := iter_alloc (w := W4) hitB _
              have hNW : N ≤ W4.heap.size := by rw [hzB]; omega
              have hbC : Below N w1 (W4.alloc (.cells #[.int .i32 92, .int .i32 120, .int .i32 (a.toNat : Int), .int .i32 (b.toNat : Int)] 21)).drew := (hbB.alloc hNW _).drew
              have hBD : Lib.IsBuilderF TB T8 N N (Lib.byteCells acc) (W4.alloc (.cells #[.int .i32 92, .int .i32 120, .int .i32 (a.toNat : Int), .int .i32 (b.toNat : Int)] 21)).drew := builder_drew (hBB.alloc _)
              have hL := lay_any N N (M + 1 + 1) 4 acc [92, 120, (a.toNat : Int), (b.toNat : Int)] (W4.alloc (.cells #[.int .i32 92, .int .i32 120, .int .i32 (a.toNat : Int), .int .i32 (b.toNat : Int)] 21)).drew hBD hh rfl (by omega) (four_sign _ _ _ _ (by omega) (by omega) (by omega) (by omega)) (by omega) (by show N ≤ (W4.alloc (.cells #[.int .i32 92, .int .i32 120, .int .i32 (a.toNat : Int), .int .i32 (b.toNat : Int)] 21)).heap.size; rw [World.size_alloc]; omega)
              rw [show ([92, 120, (a.toNat : Int), (b.toNat : Int)] : List Int).flatMap encodeRune = qsign R by rw [HX2.out]; exact four_flat ha128 hb128] at hL
              have HL := hid hL
              have HC := hid hitC
              have HB := hid hbC
              clear hh hBB hbB hitB hL hitC hbC hBD ha128 hb128
              go_wp2
              go_region_with ((refine HL.out.mono ?_; rintro e W5 ⟨rfl, hB3, hb3, ho3⟩))
              all_goals
                have hit3 := ho3.iter HC.out (by omega)
                have fin := HFIN.out _ hB3 hit3 (HB.out.trans hb3)
                have HM2 := hid (iter_pos hit3)
                clear hB3 hb3 ho3 hit3
                go_wp2
                go_roundw
                case rel => exact fin
                case measure => rw [HM1.out, HM2.out]; omega
      · have hnx := fun ty => run_next_end_at (P := Tryz.prog) wr I s pos ty hit hlt
        have hq := HI.out.2.2
        rw [List.drop_eq_nil_of_le (by rw [← Lib.size_eq]; omega), runes_nil, List.flatMap_nil, List.nil_append] at hq
        have HQ := hid hq
        have hh := row_last hM #[.int .i32 34] 21
        have hbB : Below N w1 (wr.alloc (.cells #[.int .i32 34] 21)) := hb.alloc (by have := hb.size; omega) _
        have hL := lay_any N N M 1 acc [34] _ (hB.alloc _) hh rfl (by omega) (fun j hj => by simp at hj; subst hj; simp) (by omega) (by rw [World.size_alloc, hM]; omega)
        rw [show ([34] : List Int).flatMap encodeRune = [34] from by decide +kernel, ← HQ.out] at hL
        clear hq hh hb hB HI hit
        go_wp2_with fail
        refine hL.mono ?_
        rintro e W2 ⟨rfl, hB2, hb3, ho3⟩
        have hb4 := hbB.trans hb3
        clear hL hnx hb3 ho3 hbB
        go_wp2_with fail
        refine (Tryz.Builder_String_any_k N N _ W2 hB2 (by have := hb4.size; omega)).mono ?_
        rintro e W3 ⟨rfl, hB3, hb5, ho5⟩
        have hfb := hb1'.out.trans ((hN ▸ hb4.trans hb5 : Below w1.heap.size w1 W3).mono (by have := hb1'.out.size; omega))
        clear hB3 ho5
        go_wp2
        go_ret2
        exact ⟨by rw [HV.out]; rfl, hfb⟩
end Go.Proofs.YtkdhaipjfkalfaaGreatDoor
