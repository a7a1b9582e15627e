/- What is proved: a part of the walk of the program and of its plain laws; no condition beside those that each theorem names. -/
import Derived.Test.YtaogfdffgdglkaaGreatDoorYd
import Derived.Test.YtaogfdffgdglkaaGreatDoorYa
namespace Go.Proofs.YtaogfdffgdglkaaGreatDoor
open Go Go.RowKit Go.Lib
set_option linter.unusedSimpArgs false
set_option linter.unusedVariables false
section
set_option maxHeartbeats 4000000
set_option maxRecDepth 100000
inductive QP
 | sign (r : Int) (tq : Nat)
 | fin (tq : Nat)
 | bad (e : Int)
def Eh : QP -> Value
 | .sign r tq => .iface 291 (.agg #[.int .i32 r, .int .i64 tq])
 | .fin tq => .iface 293 (.agg #[.int .i64 tq])
 | .bad e => .iface 295 (.agg #[.int .i64 e])
def Hd (l : List UInt8) (k : Nat) : Option Nat :=
 if l.length < k then none else match C9 0 (l.take k) with
 | none => none
 | some v => if Lib.validRune (v : Int) then some v else none
def El (s : ByteArray) (p k : Nat) : QP := match Hd (s.data.toList.drop p) k with
 | some v => .sign v (p + k)
 | none => .bad 41
theorem QA {l : List UInt8} {c : UInt8} (h : c = 43 \/ c = 45) (acc : Nat) : C9 acc (c :: l) = none := by
 rcases h with rfl | rfl <;> rfl
theorem K1 {l : List UInt8} {k : Nat} (h : l.length < k) : Hd l k = none := by unfold Hd; rw [if_pos h]
theorem L6 (s : ByteArray) (p k : Nat) : (s.extract p (p + k)).data.toList = (s.data.toList.drop p).take k := by rw [<- Lib.toList_data]; exact N2 s p k
theorem H6 (s : ByteArray) (i : Nat) (h : i < s.size) (x : Int) (hx : AR s i = x) (h0 : x < 128) : x = ((s[i]'h).toNat : Int) := by
 rw [Eo s i h, <- Lib.decodeL_drop] at hx
 have hne := Dj s i h
 have hd : s.data.toList.drop i = s[i]'h :: s.data.toList.drop (i + 1) := by
  rw [List.drop_eq_getElem_cons (by rw [<- Lib.size_eq]; exact h)]; rfl
 rw [hd] at hx
 by_cases hb : (s[i]'h).toNat < 128
 ·rw [decodeL_ascii _ _ hb] at hx
  omega
 ·have := Hj (s[i]'h) (s.data.toList.drop (i + 1)) (by omega)
  omega
theorem N8 (s : ByteArray) (p k : Nat) (hk : 0 < k) (h : BT [43, 45] (AR s p) = true) : Hd (s.data.toList.drop p) k = none := by
 by_cases hl : p < s.size
 ·unfold BT at h
  have h' : AR s p = 43 \/ AR s p = 45 := by simpa using h
  have hb := H6 s p hl _ rfl (by omega)
  have hc : s[p]'hl = 43 \/ s[p]'hl = 45 := by
   rcases h' with h' | h'
   ·left; exact UInt8.toNat_inj.1 (by show _ = 43; omega)
   ·right; exact UInt8.toNat_inj.1 (by show _ = 45; omega)
  have hd : s.data.toList.drop p = s[p]'hl :: s.data.toList.drop (p + 1) := by
   rw [List.drop_eq_getElem_cons (by rw [<- Lib.size_eq]; exact hl)]; rfl
  unfold Hd
  split
  ·rfl
  ·obtain ⟨k', rfl⟩ : ∃ k', k = k' + 1 := ⟨k - 1, by omega⟩
   rw [hd, List.take_succ_cons, QA hc]
 ·exact K1 (by rw [List.length_drop, <- Lib.size_eq]; omega)
def CY (w : World) (b : Nat) (s : ByteArray) (q : Int) : Prop := w.heap[b]? = some (.cells #[.string s, .int .i32 q] 286)
theorem CY.below {w w' : World} {b : Nat} {s : ByteArray} {q : Int} (h : CY w b s q) (hb : Below w.heap.size w w') : CY w' b s q := Aa h hb
theorem CY.cells {w : World} {b : Nat} {s : ByteArray} {q : Int} (h : CY w b s q) : w.cell? ⟨b, 0, none⟩ = some (.string s) /\ w.cell? ⟨b, 1, none⟩ = some (.int .i32 q) := by
 unfold CY at h
 simp [World.cell?, h]
theorem CY.new {w w' : World} {s : ByteArray} {q : Int} (hb : Below (w.alloc (.cells #[.string s, .int .i32 q] 286)).heap.size (w.alloc (.cells #[.string s, .int .i32 q] 286)) w') : CY w' w.heap.size s q := Jq _ _ hb
theorem IJ (s : ByteArray) (q : Int) (p k : Nat) (w : World) (hs : s.size <= 1000000) (hk : k = 2 \/ k = 4) (hp : p <= 1000002) (hT : Bz w) :
  Calls Tryz.prog 228 #[Ui s q, .int .i64 p, .int .i64 k] w fun e w' => e = .returned (Eh (El s p k)) /\ Below w.heap.size w w' := by
 have hkb : k <= 4 /\ 2 <= k := by omega
 obtain ⟨hk4, hk2⟩ := hkb
 clear hk
 have hb0 : Below w.heap.size w (w.alloc (.cells #[.string s, .int .i32 q] 286)) := (Bq _ w).alloc Nr _
 by_cases hlen : s.size < p + k
 ·have hgt : (s.size : Int) < (p : Int) + (k : Int) := by omega
  have hN : El s p k = .bad 41 := by unfold El; rw [K1 (by rw [List.length_drop, <- Lib.size_eq]; omega)]
  rw [hN]
  clear hN hlen
  go_enter Tryz.func228, Tryz.ntmps228
  go_wp2
  go_ret
  exact ⟨rfl, hb0⟩
 have hle : (p : Int) + (k : Int) <= (s.size : Int) := by omega
 have hm : ∀ b, BT [43, 45] (AR s p) = b -> Hid (BT [43, 45] (AR s p) = b) := fun _ h => hid h
 cases hmm : BT [43, 45] (AR s p) with
 | true =>
  have hN : El s p k = .bad 41 := by unfold El; rw [N8 s p k (by omega) hmm]
  rw [hN]
  have HM := hm _ hmm
  clear hN hlen hm hmm
  go_enter Tryz.func228, Tryz.ntmps228
  go_wp2_with fail
  refine (EF s q p _ hs (by omega) (hT.below hb0)).mono ?_
  rintro e w1 ⟨rfl, hb1⟩
  have hb2 := hb0.trans (hb1.mono hb0.size)
  go_wp2_with fail
  refine (DC (AR s p) [43, 45] 2 2 _ rfl (by decide)).mono ?_
  rintro e w2 ⟨rfl, hb3⟩
  rw [HM.out]
  have hb4 := hb2.trans (hb3.mono hb2.size)
  go_wp2
  go_ret
  exact ⟨rfl, hb4⟩
 | false =>
  have HM := hm _ hmm
  obtain ⟨t, ht⟩ : ∃ t, s.extract p (p + k) = t := ⟨_, rfl⟩
  have hts : t.size = k := by rw [<- ht, ByteArray.size_extract]; omega
  have htl : t.data.toList = (s.data.toList.drop p).take k := by rw [<- ht]; exact L6 s p k
  have hN : Hd (s.data.toList.drop p) k = match C9 0 t.data.toList with | none => none | some v => if Lib.validRune (v : Int) then some v else none := by
   unfold Hd
   rw [if_neg (by rw [List.length_drop, <- Lib.size_eq]; omega), htl]
  have HS := hid ht
  have hsl : ∀ wx : World, (Instr.slice 9 (.string s) (some (.int .i64 p)) (some (.int .i64 ((p : Int) + (k : Int)))) none).run Tryz.prog wx = .ok (.string t) wx := fun wx => by
   have h := run_slice_string (P := Tryz.prog) wx 9 s .i64 .i64 p ((p : Int) + (k : Int)) (by kernel_rfl) (by omega) (by omega) (by omega)
   rw [show ((p : Int)).toNat = p by omega, show ((p : Int) + (k : Int)).toNat = p + k by omega, ht] at h
   exact h
  clear hm hmm ht htl hlen
  cases hx : C9 0 t.data.toList with
  | none =>
   rw [hx] at hN
   have hQ : El s p k = .bad 41 := by unfold El; rw [hN]
   rw [hQ]
   have hP := fun wx hx' => LG t (by omega) (by omega) hx wx hx'
   clear hN hQ hx
   go_enter Tryz.func228, Tryz.ntmps228
   go_wp2_with fail
   refine (EF s q p _ hs (by omega) (hT.below hb0)).mono ?_
   rintro e w1 ⟨rfl, hb1⟩
   have hb2 := hb0.trans (hb1.mono hb0.size)
   have hr1 : CY w1 w.heap.size s q := CY.new hb1
   clear hb1
   go_wp2_with fail
   refine (DC (AR s p) [43, 45] 2 2 _ rfl (by decide)).mono ?_
   rintro e w2 ⟨rfl, hb3⟩
   rw [HM.out]
   have hb4 := hb2.trans (hb3.mono hb2.size)
   have hr2 := hr1.below hb3
   obtain ⟨a0, a1⟩ := hr2.cells
   clear hb3 hr1 hr2 hb2
   go_wp2_with fail
   refine (hP _ (hT.below hb4)).mono ?_
   rintro e w3 ⟨N, rfl, hb5⟩
   have hb6 := hb4.trans (hb5.mono hb4.size)
   clear hP hb5
   go_wp2
   go_ret
   exact ⟨rfl, hb6⟩
  | some v =>
   rw [hx] at hN
   have hP := fun wx => MX t (by omega) (by omega) v hx wx
   have hv : v <= 65535 := by
    have h1 := Ps _ _ _ hx
    have h2 : 16 ^ t.data.toList.length <= 16 ^ 4 := Nat.pow_le_pow_right (by omega) (by rw [<- Lib.size_eq]; omega)
    omega
   have hv0 : (0 : Int) <= (v : Int) := by omega
   have hv1 : (v : Int) <= 65535 := by omega
   cases hva : Lib.validRune (v : Int) with
   | true =>
    have hQ : El s p k = .sign v (p + k) := by unfold El; rw [hN]; dsimp only; rw [hva]; rfl
    rw [hQ]
    have hV := fun wx => Tryz.utf8_ValidRune (v : Int) wx
    rw [hva] at hV
    clear hN hQ hx hva
    go_enter Tryz.func228, Tryz.ntmps228
    go_wp2_with fail
    refine (EF s q p _ hs (by omega) (hT.below hb0)).mono ?_
    rintro e w1 ⟨rfl, hb1⟩
    have hb2 := hb0.trans (hb1.mono hb0.size)
    have hr1 : CY w1 w.heap.size s q := CY.new hb1
    clear hb1
    go_wp2_with fail
    refine (DC (AR s p) [43, 45] 2 2 _ rfl (by decide)).mono ?_
    rintro e w2 ⟨rfl, hb3⟩
    rw [HM.out]
    have hb4 := hb2.trans (hb3.mono hb2.size)
    have hr2 := hr1.below hb3
    obtain ⟨a0, a1⟩ := hr2.cells
    clear hb3 hr1 hr2 hb2
    go_wp2_with fail
    refine (hP _).mono ?_
    rintro e w3 ⟨rfl, hb5⟩
    have hb6 := hb4.trans (hb5.mono hb4.size)
    clear hP hb5
    go_wp2_with fail
    refine (hV _).mono ?_
    rintro e w4 ⟨rfl, hw⟩
    subst w4
    clear hV
    go_wp2
    go_ret
    exact ⟨rfl, hb6⟩
   | false =>
    have hQ : El s p k = .bad 41 := by unfold El; rw [hN]; dsimp only; rw [hva]; rfl
    rw [hQ]
    have hV := fun wx => Tryz.utf8_ValidRune (v : Int) wx
    rw [hva] at hV
    clear hN hQ hx hva
    go_enter Tryz.func228, Tryz.ntmps228
    go_wp2_with fail
    refine (EF s q p _ hs (by omega) (hT.below hb0)).mono ?_
    rintro e w1 ⟨rfl, hb1⟩
    have hb2 := hb0.trans (hb1.mono hb0.size)
    have hr1 : CY w1 w.heap.size s q := CY.new hb1
    clear hb1
    go_wp2_with fail
    refine (DC (AR s p) [43, 45] 2 2 _ rfl (by decide)).mono ?_
    rintro e w2 ⟨rfl, hb3⟩
    rw [HM.out]
    have hb4 := hb2.trans (hb3.mono hb2.size)
    have hr2 := hr1.below hb3
    obtain ⟨a0, a1⟩ := hr2.cells
    clear hb3 hr1 hr2 hb2
    go_wp2_with fail
    refine (hP _).mono ?_
    rintro e w3 ⟨rfl, hb5⟩
    have hb6 := hb4.trans (hb5.mono hb4.size)
    clear hP hb5
    go_wp2_with fail
    refine (hV _).mono ?_
    rintro e w4 ⟨rfl, hw⟩
    subst w4
    clear hV
    go_wp2
    go_ret
    exact ⟨rfl, hb6⟩
def Cn (x : Int) : Option Int := if x = 110 then some 10 else if x = 116 then some 9 else if x = 114 then some 13 else none
def JF (s : ByteArray) (p : Nat) (x : Int) : QP :=
 if s.size <= p then .bad 41
 else if BT [34, 92, 47] x then .sign x (p + 1)
 else if x = 48 then .sign 0 (p + 1)
 else if x = 120 then El s (p + 1) 2
 else if x = 117 then El s (p + 1) 4
 else match Cn x with
 | some y => .sign y (p + 1)
 | none => .bad 41
def JD (s : ByteArray) (p : Nat) : QP := JF s p (AR s p)
def AN : Array MapEntry := #[{ key := .int .i32 10, val := .int .i32 110, born := 0 }, { key := .int .i32 9, val := .int .i32 116, born := 1 }, { key := .int .i32 13, val := .int .i32 114, born := 2 }]
theorem Na : C5 3 = .map AN 3 := rfl
theorem Q0 {e : MapEntry} (h : e ∈ AN.toList) : ∃ y l : Int, e.key = .int .i32 y /\ e.val = .int .i32 l /\ Cn l = some y := by
 simp [AN] at h
 rcases h with rfl | rfl | rfl
 ·exact ⟨10, 110, rfl, rfl, rfl⟩
 ·exact ⟨9, 116, rfl, rfl, rfl⟩
 ·exact ⟨13, 114, rfl, rfl, rfl⟩
theorem Qz {x : Int} (h : ∀ e ∈ AN.toList, e.val ≠ .int .i32 x) : Cn x = none := by
 have h0 := h _ (show ({ key := .int .i32 10, val := .int .i32 110, born := 0 } : MapEntry) ∈ AN.toList by simp [AN])
 have h1 := h _ (show ({ key := .int .i32 9, val := .int .i32 116, born := 1 } : MapEntry) ∈ AN.toList by simp [AN])
 have h2 := h _ (show ({ key := .int .i32 13, val := .int .i32 114, born := 2 } : MapEntry) ∈ AN.toList by simp [AN])
 unfold Cn
 rw [if_neg (fun e => h0 (by rw [e])), if_neg (fun e => h1 (by rw [e])), if_neg (fun e => h2 (by rw [e]))]
theorem Eb : MapKept.Stamped AN 3 := by
 refine ⟨fun x hx => ?_, by simp [AN], by simp [AN]⟩
 simp [AN] at hx
 rcases hx with rfl | rfl | rfl <;> decide
theorem Su {es : Array MapEntry} {clock : Nat} (hst : MapKept.Stamped es clock) {a b : MapEntry} (ha : a ∈ es.toList) (hb : b ∈ es.toList) (h : a.born = b.born) : a = b := by
 have h1 := find_born a es.toList hst.2.1 ha
 have h2 := find_born b es.toList hst.2.1 hb
 rw [h, h2] at h1
 exact (Option.some.inj h1).symm
theorem S4 {s : ByteArray} {p : Nat} {x : Int} (h : s.size <= p) : JF s p x = .bad 41 := by unfold JF; rw [if_pos h]
theorem NW (s : ByteArray) (q : Int) (p : Nat) (w : World) (hs : s.size <= 1000000) (hp : p <= 1000001) (hT : Bz w) :
  Calls Tryz.prog 218 #[Ui s q, .int .i64 p] w fun e w' => e = .returned (Eh (JD s p)) /\ Below w.heap.size w w' := by
 have hb0 : Below w.heap.size w (w.alloc (.cells #[.string s, .int .i32 q] 286)) := (Bq _ w).alloc Nr _
 obtain ⟨x, hx⟩ : ∃ x, AR s p = x := ⟨_, rfl⟩
 have hA := fun wx hx' => EF s q p wx hs (by omega) hx'
 rw [hx] at hA
 have hE : JD s p = JF s p x := by unfold JD; rw [hx]
 obtain ⟨V, hV⟩ : ∃ V, Eh (JD s p) = V := ⟨_, rfl⟩
 rw [hV]
 rw [hE] at hV
 clear hE hx
 by_cases hlen : s.size <= p
 ·have hle : (s.size : Int) <= (p : Int) := by omega
  rw [S4 hlen] at hV
  have HV := hid hV
  clear hlen hV
  go_enter Tryz.func218, Tryz.ntmps218
  go_wp2_with fail
  refine (hA _ (hT.below hb0)).mono ?_
  rintro e w1 ⟨rfl, hb1⟩
  have hb2 := hb0.trans (hb1.mono hb0.size)
  obtain ⟨a0, a1⟩ := (CY.new hb1).cells
  clear hb1 hA
  go_wp2
  go_ret
  exact ⟨by rw [<- HV.out]; rfl, hb2⟩
 have hlt : (p : Int) < (s.size : Int) := by omega
 have HV := hid hV
 clear hV
 go_enter Tryz.func218, Tryz.ntmps218
 go_wp2_with fail
 refine (hA _ (hT.below hb0)).mono ?_
 rintro e w1 ⟨rfl, hb1⟩
 have hb2 := hb0.trans (hb1.mono hb0.size)
 have hr1 : CY w1 w.heap.size s q := CY.new hb1
 obtain ⟨a0, a1⟩ := hr1.cells
 clear hb1 hA hb0
 go_wp2_with fail
 refine (DC x [34, 92, 47] 3 3 _ rfl (by decide)).mono ?_
 rintro e w2 ⟨rfl, hb3⟩
 have hb4 := hb2.trans (hb3.mono hb2.size)
 have hr2 := hr1.below hb3
 clear hb3 hr1 hb2 a0 a1
 obtain ⟨a0, a1⟩ := hr2.cells
 cases hm : BT [34, 92, 47] x with
 | true =>
  have hQ : JF s p x = .sign x (p + 1) := by unfold JF; rw [if_neg hlen, if_pos hm]
  have HQ := hid (HV.out.symm.trans (congrArg Eh hQ))
  clear hQ hm
  go_wp2
  go_ret
  exact ⟨by rw [HQ.out]; rfl, hb4⟩
 | false =>
  have hQ : JF s p x = if x = 48 then .sign 0 (p + 1) else if x = 120 then El s (p + 1) 2 else if x = 117 then El s (p + 1) 4 else match Cn x with | some y => .sign y (p + 1) | none => .bad 41 := by unfold JF; rw [if_neg hlen, hm]; rfl
  have HQ := hid (HV.out.symm.trans (congrArg Eh hQ))
  clear hQ hm hlen HV
  by_cases h48 : x = 48
  ·have HR := hid (HQ.out.trans (congrArg Eh (if_pos h48)))
   subst h48
   clear HQ
   go_wp2
   go_ret
   exact ⟨by rw [HR.out]; rfl, hb4⟩
  have HR := hid (HQ.out.trans (congrArg Eh (if_neg h48)))
  have b48 : (x == 48) = false := by simpa using h48
  clear h48 HQ
  by_cases h120 : x = 120
  ·have HQ := hid (HR.out.trans (congrArg Eh (if_pos h120)))
   subst h120
   clear HR
   go_wp2_with fail
   refine (IJ s q (p + 1) 2 _ hs (.inl rfl) (by omega) (hT.below hb4)).mono ?_
   rintro e w3 ⟨rfl, hb5⟩
   have hb6 := hb4.trans (hb5.mono hb4.size)
   clear hb5
   rw [<- HQ.out]
   go_wp2
   go_ret
   exact ⟨rfl, hb6⟩
  have HQ := hid (HR.out.trans (congrArg Eh (if_neg h120)))
  have b120 : (x == 120) = false := by simpa using h120
  clear h120 HR
  by_cases h117 : x = 117
  ·have HR := hid (HQ.out.trans (congrArg Eh (if_pos h117)))
   subst h117
   clear HQ
   go_wp2_with fail
   refine (IJ s q (p + 1) 4 _ hs (.inr rfl) (by omega) (hT.below hb4)).mono ?_
   rintro e w3 ⟨rfl, hb5⟩
   have hb6 := hb4.trans (hb5.mono hb4.size)
   clear hb5
   rw [<- HR.out]
   go_wp2
   go_ret
   exact ⟨rfl, hb6⟩
  have HR := hid (HQ.out.trans (congrArg Eh (if_neg h117)))
  have b117 : (x == 117) = false := by simpa using h117
  clear h117 HQ
  go_wp2_with fail
  refine (QC _).mono ?_
  rintro e w3 ⟨rfl, hw3⟩
  obtain ⟨bm, hbm⟩ : ∃ bm, w2.heap.size = bm := ⟨_, rfl⟩
  have hb5 : Below w2.heap.size w2 w3 := by rw [hw3]; exact (Bq _ w2).alloc Nr _
  have hm3 : w3.heap[bm]? = some (.map AN 3) := by rw [hw3, <- hbm, Wn, Na]
  rw [hbm]
  clear hw3
  have hb6 := hb4.trans (hb5.mono hb4.size)
  clear hb5 hbm
  have hrg := run_range_map (P := Tryz.prog) w3 98 21 21 bm AN 3 Tryz.underlying98 hm3
  go_wp2
  clear hrg
  go_loopw [6] (fun _ wr => ∃ (w1 : World) (seen : Array Nat), wr = w1.alloc (.mapIter (some bm) 3 seen 3) /\ w1.heap = w3.heap /\ Below w.heap.size w w1 /\ Hid (∀ e ∈ AN.toList, seen.contains e.born = true -> e.val ≠ .int .i32 x)) (fun _ wr => (leftOf AN (wr.iterSeen w3.heap.size)).size)
  case atStart => exact ⟨w3, #[], rfl, rfl, hb6, hid (fun e _ h => by simp at h)⟩
  case round =>
   obtain ⟨w5, seen, rfl, hh, hb7, HS⟩ := hrel
   have hsz : w5.heap.size = w3.heap.size := by rw [hh]
   have hm5 : w5.heap[bm]? = some (.map AN 3) := by rw [hh]; exact hm3
   have hb8 : Below w.heap.size w (w5.alloc (.mapIter (some bm) 3 seen 3)) := hb7.alloc hb7.size _
   have law := J7 (P := Tryz.prog) w5 0 bm 3 3 seen AN 3 hm5 Eb.1 Nr
   rw [hsz] at law
   rcases law with ⟨h0, hrun⟩ | ⟨e, he, w6, hal, hrun⟩
   ·have hnone : Cn x = none := Qz (fun e he => HS.out e he (by
     have h2 : leftOf AN seen = #[] := Array.eq_empty_of_size_eq_zero h0
     cases hc : seen.contains e.born with
     | true => rfl
     | false =>
      have : e ∈ leftOf AN seen := Array.mem_filter.2 ⟨Array.mem_toList_iff.1 he, by rw [hc]; rfl⟩
      rw [h2] at this; simp at this))
    have HQ := hid (HR.out)
    rw [hnone] at HQ
    have hnx : ∀ ty, (Instr.next (.pointer (some ⟨w3.heap.size, 0, none⟩)) false ty).run Tryz.prog (w5.alloc (.mapIter (some bm) 3 seen 3)) = _ := fun _ => hrun
    clear hrun hnone HR HS
    go_wp2
    go_ret
    exact ⟨by rw [HQ.out]; rfl, hb8⟩
   ·have hsz6 : w6.heap = w5.heap := by rcases hal with rfl | rfl <;> rfl
    have hb9 : Below w.heap.size w w6 := by rcases hal with rfl | rfl; exact hb7; exact hb7.drew
    obtain ⟨y, l, hkey, hval, hq⟩ := Q0 (mem_left he).1
    have hen := run_entry_map (P := Tryz.prog) w6 bm 3 seen AN 3 e (by rw [hsz6]; exact hm5) (mem_left he).1 Eb.2.1
    rw [show w6.heap.size = w3.heap.size by rw [hsz6, hsz], hkey, hval] at hen
    rw [hkey, hval] at hrun
    have hnx : ∀ ty, (Instr.next (.pointer (some ⟨w3.heap.size, 0, none⟩)) false ty).run Tryz.prog (w5.alloc (.mapIter (some bm) 3 seen 3)) = _ := fun _ => hrun
    have hb10 : Below w.heap.size w (w6.alloc (.mapIter (some bm) 3 (seen.push e.born) 3)) := hb9.alloc hb9.size _
    have hms : (leftOf AN ((w6.alloc (.mapIter (some bm) 3 (seen.push e.born) 3)).iterSeen w3.heap.size)).size < (leftOf AN ((w5.alloc (.mapIter (some bm) 3 seen 3)).iterSeen w3.heap.size)).size := by
     rw [show w3.heap.size = w6.heap.size by rw [hsz6, hsz], World.iterSeen_alloc, show w6.heap.size = w5.heap.size by rw [hsz6], World.iterSeen_alloc]
     exact left_shrinks AN seen e he
    have HM := hid hms
    have HE := hid (Ai (mem_left he).1 (Ai hval hsz6))
    have HK := hid (Ai hq hal)
    clear hrun hms hval hkey hq he hal hsz6
    by_cases hxl : x = l
    ·subst hxl
     have HQ := hid (HR.out)
     rw [HK.out.1] at HQ
     clear HR
     go_wp2
     go_ret
     exact ⟨by rw [HQ.out]; rfl, hb10⟩
    ·have bxl : (x == l) = false := by simpa using hxl
     clear hxl
     go_wp2
     go_roundw
     case rel =>
      refine ⟨w6, seen.push e.born, rfl, HE.out.2.2.trans hh, hb9, hid (fun e2 he2 hc => ?_)⟩
      rw [contains_push, Bool.or_eq_true] at hc
      rcases hc with hc | hc
      ·exact HS.out e2 he2 hc
      ·intro hv
       have := Su Eb he2 HE.out.1 (by simpa using hc)
       subst this
       rw [HE.out.2.1] at hv
       injection hv with _ hv
       simp [hv] at bxl
     case measure => exact HM.out
end
end Go.Proofs.YtaogfdffgdglkaaGreatDoor
