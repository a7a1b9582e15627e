import Derived.Test.YtghelkkndkbejaaGreatDoorKc
import Derived.Test.YtghelkkndkbejaaGreatDoorMp
/- What is proved: the reference for layer 15: the piece at a place that is no other one. -/
namespace Go.Proofs.YtghelkkndkbejaaGreatDoor
open Go Go.RowKit Go.Lib
set_option linter.unusedSimpArgs false
set_option linter.unusedVariables false

/-- What the reference says of a piece: the piece, the place behind, no error; or an error. -/
def PostO (r : TR) (p : Nat) (w : World) (e : Ending) (w' : World) : Prop :=
  (match r with
   | .ok k t q d => e = .returned (.tuple #[.agg #[.int .i64 k, .string ⟨t.toArray⟩, .int .i64 p], .int .i64 q, .int .i64 0])
   | .bad er => ∃ (x z : Int) (y : ByteArray), e = .returned (.tuple #[.agg #[.int .i64 x, .string y, .int .i64 z], .int .i64 0, .int .i64 er])) ∧ Below w.heap.size w w'
theorem postO_ok {k : Nat} {t : List UInt8} {q d p : Nat} {w w' : World} {e : Ending} (h : e = .returned (.tuple #[.agg #[.int .i64 k, .string ⟨t.toArray⟩, .int .i64 p], .int .i64 q, .int .i64 0])) (hb : Below w.heap.size w w') : PostO (.ok k t q d) p w e w' := ⟨h, hb⟩
theorem postO_bad {er p : Nat} {w w' : World} {e : Ending} {x z : Int} {y : ByteArray} (h : e = .returned (.tuple #[.agg #[.int .i64 x, .string y, .int .i64 z], .int .i64 0, .int .i64 er])) (hb : Below w.heap.size w w') : PostO (.bad er) p w e w' := ⟨⟨x, z, y, h⟩, hb⟩

/-- The block of the result, laid first. -/
structure Ox (w : World) (v0 v1 v2 : Value) (W : World) : Prop where
  res : W.heap[w.heap.size]? = some (.cells #[v0, v1, v2] 33)
  bel : Below w.heap.size w W
theorem Ox.new (w : World) (v0 v1 v2 : Value) : Ox w v0 v1 v2 (w.alloc (.cells #[v0, v1, v2] 33)) := ⟨World.alloc_heap_new _ _, (Below.refl _ w).alloc (Nat.le_refl _) _⟩
theorem Ox.below {w : World} {v0 v1 v2 : Value} {w1 w2 : World} (h : Ox w v0 v1 v2 w1) (hb : Below w1.heap.size w1 w2) : Ox w v0 v1 v2 w2 := ⟨heap_below h.res hb, h.bel.trans (hb.mono h.bel.size)⟩
theorem Ox.cells {w : World} {v0 v1 v2 : Value} {w1 : World} (h : Ox w v0 v1 v2 w1) : w1.cell? ⟨w.heap.size, 0, none⟩ = some v0 ∧ w1.cell? ⟨w.heap.size, 1, none⟩ = some v1 ∧ w1.cell? ⟨w.heap.size, 2, none⟩ = some v2 ∧ w1.frozen? ⟨w.heap.size, 0, none⟩ = false ∧ w1.frozen? ⟨w.heap.size, 1, none⟩ = false ∧ w1.frozen? ⟨w.heap.size, 2, none⟩ = false := blk3 h.res
theorem Ox.fin {w : World} {u0 u1 u2 : Value} {w1 : World} (h : Ox w u0 u1 u2 w1) (v0 v1 v2 : Value) : Ox w v0 v1 v2 (((w1.setCell ⟨w.heap.size, 0, none⟩ v0).setCell ⟨w.heap.size, 1, none⟩ v1).setCell ⟨w.heap.size, 2, none⟩ v2) := by
  have h0 := heap_setCell_same w1 w.heap.size 0 _ _ v0 h.res
  have h1 := heap_setCell_same _ w.heap.size 1 _ _ v1 h0
  have h2 := heap_setCell_same _ w.heap.size 2 _ _ v2 h1
  exact ⟨h2, ((h.bel.setCell (p := ⟨w.heap.size, 0, none⟩) (Nat.le_refl _) v0).setCell (p := ⟨w.heap.size, 1, none⟩) (Nat.le_refl _) v1).setCell (p := ⟨w.heap.size, 2, none⟩) (Nat.le_refl _) v2⟩
def strOf : Value → Nat
  | .string T => T.size
  | _ => 0
theorem last_of (T : ByteArray) (h : 0 < T.size) : T.data.toList = (T.extract 0 (T.size - 1)).data.toList ++ [T[T.size - 1]'(by omega)] := by
  rw [Lib.extract_upto]
  show T.data.toList = ((T.data.toList.take (T.size - 1)).toArray).toList ++ _
  have hlen : T.size - 1 < T.data.toList.length := by rw [← Lib.size_eq]; omega
  have h1 := List.take_succ_eq_append_getElem hlen
  rw [show T.size - 1 + 1 = T.size by omega, List.take_of_length_le (by rw [← Lib.size_eq]; omega)] at h1
  rw [h1]
  simp
  rfl
abbrev tok0 (w : World) : World := w.alloc (.cells #[.int .i64 0, .string ⟨#[]⟩, .int .i64 0] 33)
theorem closed_at (s : ByteArray) (k d : Nat) (wx : World) (hs : s.size ≤ 1000000) (hk : k ≤ 1000001) : Calls Tryz.prog 51 #[.string s, .int .i64 ((k : Int) + 1), .int .i64 d] wx fun e w' => e = .returned (.bool (closedB s.data.toList (k + 1) d)) ∧ w' = wx := by
  have h := refClosed_same s (k + 1) d wx hs (by omega)
  rwa [show ((k + 1 : Nat) : Int) = (k : Int) + 1 by omega] at h

set_option maxRecDepth 100000 in
set_option maxHeartbeats 8000000 in
theorem refPlain15_any (s : ByteArray) (p d : Nat) (w : World) (hs : s.size ≤ 1000000) (hp : p ≤ s.size) :
    Calls Tryz.prog 54 #[.string s, .int .i64 p, .int .i64 d] w (PostO (plainT s.data.toList p d) p w) := by
  have hM := fun (T : ByteArray) (hT : T.size ≤ 1000000) wx => mayR_any T (decide (0 < d)) wx hT
  have HM := hid hM
  have hdI : (0 : Int) ≤ (d : Int) := by omega
  clear hM
  go_enter Tryz.func54, Tryz.ntmps54
  go_wp2
  go_loop [9] (fun i => ∃ k : Nat, p ≤ k ∧ k ≤ s.size ∧ i = .int .i64 k ∧ Hid (endP s.data.toList p d = endP s.data.toList k d)) (fun i => s.size - (intOf i).toNat)
  case atStart => exact ⟨p, by omega, hp, rfl, hid rfl⟩
  case round =>
    obtain ⟨k, hk1, hk2, rfl, HI⟩ := hrel
    go_upto_region 2 with fail
    go_cut [46] from 12 to 48 (fun v wx => wx = tok0 w ∧ v = .bool (!endB s.data.toList k d))
    case first =>
      by_cases hlt : k < s.size
      · have hlti : (k : Int) < (s.size : Int) := by omega
        obtain ⟨c, hc⟩ : ∃ c, s[k]'hlt = c := ⟨_, rfl⟩
        have hV : endB s.data.toList k d = (noteB s.data.toList k || ((((c.toNat : Int) == 58) && closedB s.data.toList (k + 1) d) || (decide (0 < d) && amongB flowL c))) := by
          unfold endB
          rw [isB_one hlt hc, isB_at hlt hc, ← Lib.size_eq, decide_eq_false (by omega), Bool.false_or]
          rfl
        have hcl := fun wx => closed_at s k d wx hs (by omega)
        have hno := fun wx => refNote_same s k wx hs hlt
        have ham := fun wx => Among_same c flowB wx (by decide)
        rw [show flowB.data.toList = flowL from rfl] at ham
        obtain ⟨b1, hb1⟩ : ∃ b, closedB s.data.toList (k + 1) d = b := ⟨_, rfl⟩
        obtain ⟨bN, hbN⟩ : ∃ b, noteB s.data.toList k = b := ⟨_, rfl⟩
        obtain ⟨bA, hbA⟩ : ∃ b, amongB flowL c = b := ⟨_, rfl⟩
        obtain ⟨x, hx⟩ : ∃ b, ((c.toNat : Int) == 58) = b := ⟨_, rfl⟩
        rw [hb1] at hcl hV
        rw [hbN] at hno hV
        rw [hbA] at ham hV
        rw [hx] at hV
        have HV := hid hV
        clear hV hb1 hbN hbA HI
        cases x with
        | true =>
          go_wp2_with fail
          refine (hcl _).mono ?_
          rintro e w1 ⟨rfl, hw⟩
          subst w1
          cases b1 with
          | true =>
            go_wp2
            go_meet
            case rel => exact ⟨rfl, by rw [HV.out]; cases bN <;> rfl⟩
          | false =>
            go_wp2_with fail
            refine (hno _).mono ?_
            rintro e w1 ⟨rfl, hw⟩
            subst w1
            cases bN with
            | true =>
              go_wp2
              go_meet
              case rel => exact ⟨rfl, by rw [HV.out]; rfl⟩
            | false =>
              by_cases hd : 0 < d
              · have hdi : (0 : Int) < (d : Int) := by omega
                go_wp2_with fail
                refine (ham _).mono ?_
                rintro e w1 ⟨rfl, hw⟩
                subst w1
                go_wp2
                go_meet
                case rel => exact ⟨rfl, by rw [HV.out, decide_eq_true hd]; cases bA <;> rfl⟩
              · have hdi : ¬ (0 : Int) < (d : Int) := by omega
                go_wp2
                go_meet
                case rel => exact ⟨rfl, by rw [HV.out, decide_eq_false hd]; rfl⟩
        | false =>
          go_wp2_with fail
          refine (hno _).mono ?_
          rintro e w1 ⟨rfl, hw⟩
          subst w1
          cases bN with
          | true =>
            go_wp2
            go_meet
            case rel => exact ⟨rfl, by rw [HV.out]; rfl⟩
          | false =>
            by_cases hd : 0 < d
            · have hdi : (0 : Int) < (d : Int) := by omega
              go_wp2_with fail
              refine (ham _).mono ?_
              rintro e w1 ⟨rfl, hw⟩
              subst w1
              go_wp2
              go_meet
              case rel => exact ⟨rfl, by rw [HV.out, decide_eq_true hd]; cases bA <;> rfl⟩
            · have hdi : ¬ (0 : Int) < (d : Int) := by omega
              go_wp2
              go_meet
              case rel => exact ⟨rfl, by rw [HV.out, decide_eq_false hd]; rfl⟩
      · have hge : (s.size : Int) ≤ (k : Int) := by omega
        go_wp2
        go_meet
        case rel => exact ⟨rfl, by rw [show endB s.data.toList k d = true by unfold endB; rw [← Lib.size_eq, decide_eq_true (by omega)]; rfl]; rfl⟩
    case rest =>
    obtain ⟨rfl, rfl⟩ := hcut
    cases he : endB s.data.toList k d with
    | false =>
      have hlt : k < s.size := by
        rcases Nat.lt_or_ge k s.size with h | h
        · exact h
        · unfold endB at he; rw [← Lib.size_eq, decide_eq_true h] at he; cases he
      have HE := hid (HI.out.trans (endP_step he))
      clear he HI
      go_wp2
      go_round
      case rel => exact ⟨k + 1, by omega, by omega, by go_num, HE⟩
      case measure => simp [intOf]; omega
    | true =>
      have HE := hid (HI.out.trans (endP_end he))
      clear he HI
      have hk1i : (p : Int) ≤ (k : Int) := by omega
      have hk2i : (k : Int) ≤ (s.size : Int) := by omega
      obtain ⟨T0, hT0⟩ : ∃ T, s.extract p k = T := ⟨_, rfl⟩
      have HT0 := hid (show T0.data.toList = (s.data.toList.take k).drop p by rw [← hT0, Lib.extract_data, List.drop_take])
      have hT0s : T0.size ≤ 1000000 := by rw [← hT0, ByteArray.size_extract]; omega
      go_wp2
      go_loop [10] (fun t => ∃ T : ByteArray, t = .string T ∧ T.size ≤ 1000000 ∧ Hid (trimR T0.data.toList = trimR T.data.toList)) (fun t => strOf t)
      case atStart => exact ⟨T0, rfl, hT0s, hid rfl⟩
      case round =>
        obtain ⟨T, rfl, hTs, HT⟩ := hrel
        go_upto_region 5 with fail
        go_cut [62] from 53 to 67 (fun v wx => wx = tok0 w ∧ ∃ b, v = .bool b ∧ (b = true → 0 < T.size) ∧ Hid (b = true → trimR T.data.toList = trimR (T.extract 0 (T.size - 1)).data.toList) ∧ Hid (b = false → trimR T.data.toList = T.data.toList))
        case first =>
          by_cases h0 : 0 < T.size
          · have he := isEmpty_false h0
            have hl := last_of T h0
            obtain ⟨c, hc⟩ : ∃ c, T[T.size - 1]'(by omega) = c := ⟨_, rfl⟩
            rw [hc] at hl
            have HL := hid hl
            have h1i : (1 : Int) ≤ (T.size : Int) := by omega
            have hli : (T.size : Int) - 1 = ((T.size - 1 : Nat) : Int) := by omega
            clear hl
            cases hx : ((c.toNat : Int) == 32) with
            | true =>
              have hX := hid (show c = 32 by have h : (c.toNat : Int) = 32 := by simpa using hx
                                             exact UInt8.toNat_inj.1 (by show c.toNat = 32; omega))
              go_wp2
              go_meet
              case rel => exact ⟨rfl, true, rfl, fun _ => h0, hid (fun _ => by rw [HL.out, hX.out, trimR_snoc]), hid (fun h => by cases h)⟩
            | false =>
              have hX := hid (show c ≠ 32 by rintro rfl; simp at hx)
              go_wp2
              go_meet
              case rel => exact ⟨rfl, false, rfl, (fun h => by cases h), hid (fun h => by cases h), hid (fun _ => by
                rw [HL.out]
                unfold trimR
                rw [List.reverse_append, List.reverse_singleton, List.singleton_append, List.dropWhile_cons, if_neg (by simpa using hX.out)]
                simp)⟩
          · have he := isEmpty_true h0
            have hT00 : T.data.toList = [] := List.eq_nil_of_length_eq_zero (by rw [← Lib.size_eq]; omega)
            have HT00 := hid hT00
            clear hT00
            go_wp2
            go_meet
            case rel => exact ⟨rfl, false, rfl, (fun h => by cases h), hid (fun h => by cases h), hid (fun _ => by rw [HT00.out]; rfl)⟩
        case rest =>
        obtain ⟨rfl, b, rfl, hpos, H1, H2⟩ := hcut
        cases b with
        | true =>
          have h0 := hpos rfl
          have h1i : (1 : Int) ≤ (T.size : Int) := by omega
          have H3 := hid (HT.out.trans (H1.out rfl))
          have hz : (T.extract 0 (T.size - 1)).size = T.size - 1 := by rw [ByteArray.size_extract]; omega
          have HZ := hid hz
          clear hz hpos H1 H2 HT
          go_wp2
          go_round
          case rel => exact ⟨T.extract 0 (T.size - 1), rfl, by rw [HZ.out]; omega, H3⟩
          case measure => have := HZ.out; simp [strOf]; omega
        | false =>
          have H3 := hid (show trimR ((s.data.toList.take k).drop p) = T.data.toList by rw [← HT0.out, HT.out, H2.out rfl])
          have hMT := HM.out T hTs
          rw [mayR_eq] at hMT
          obtain ⟨b, hb⟩ : ∃ b, mayP T.data.toList (decide (0 < d)) = b := ⟨_, rfl⟩
          rw [hb] at hMT
          have HB := hid hb
          have hO := Ox.new w (.int .i64 0) (.string ⟨#[]⟩) (.int .i64 0)
          clear hb hpos H1 H2 HT HM
          go_wp2_with fail
          refine (hMT _).mono ?_
          rintro e w1 ⟨rfl, hb1⟩
          have hO1 := hO.below hb1
          clear hO hMT hb1
          obtain ⟨n0, n1, n2, g0, g1, g2⟩ := hO1.cells
          cases b with
          | false =>
            go_wp2
            have hF := hO1.fin (.int .i64 0) (.string ⟨#[]⟩) (.int .i64 0)
            obtain ⟨e0, e1, e2, _⟩ := hF.cells
            refine bodyPost_ret (v := .tuple #[.agg #[.int .i64 0, .string ⟨#[]⟩, .int .i64 0], .int .i64 0, .int .i64 51]) (by simp [results, Tryz.results54, go_sem, e0, e1, e2]) rfl ?_
            rw [show plainT s.data.toList p d = .bad 51 by unfold plainT; rw [HE.out, H3.out, HB.out]; rfl]
            exact postO_bad rfl hF.bel
          | true =>
            go_wp2
            have hF := hO1.fin (.int .i64 1) (.string T) (.int .i64 p)
            obtain ⟨e0, e1, e2, _⟩ := hF.cells
            refine bodyPost_ret (v := .tuple #[.agg #[.int .i64 1, .string T, .int .i64 p], .int .i64 k, .int .i64 0]) (by simp [results, Tryz.results54, go_sem, e0, e1, e2]) rfl ?_
            rw [show plainT s.data.toList p d = .ok 1 T.data.toList k d by unfold plainT; rw [HE.out, H3.out, HB.out]; rfl]
            exact postO_ok rfl hF.bel
end Go.Proofs.YtghelkkndkbejaaGreatDoor
