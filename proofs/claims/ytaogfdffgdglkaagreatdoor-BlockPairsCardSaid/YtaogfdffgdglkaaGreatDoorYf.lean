/- What is proved: a part of the walk of the program and of its plain laws; no condition beside those that each theorem names. -/
import Derived.Test.YtaogfdffgdglkaaGreatDoorYe
import Derived.Test.YtaogfdffgdglkaaGreatDoorYa
import Derived.Lib.MapLaws
namespace Go.Proofs.YtaogfdffgdglkaaGreatDoor
open Go Go.RowKit Go.Lib
set_option linter.unusedSimpArgs false
set_option linter.unusedVariables false
section
set_option maxHeartbeats 4000000
set_option maxRecDepth 100000
theorem Dn (l : List UInt8) (hne : l ≠ []) (h : ¬ ((decodeL l).1 = 65533 /\ (decodeL l).2 = 1)) : runeLen ((decodeL l).1 : Int) = ((decodeL l).2 : Int) := by
 by_cases h1 : (decodeL l).1 = 65533
 ·have henc := encode_decode l hne h
  have hle := decodeL_le l hne
  have h3 := Np ((decodeL l).1 : Int) (by omega)
  have := congrArg List.length henc
  rw [h3, List.length_take] at this
  rw [h1, show (decodeL l).2 = 3 by omega]
  rfl
 ·exact runeLen_decode l h1
def O1 (s : ByteArray) (q : Int) (i : Nat) (x : Int) (k : Nat) : QP :=
 if s.size <= i then .bad 42
 else if x = q then
  (if x = 39 /\ AR s (i + 1) = 39 /\ i + 1 < s.size then .sign 39 (i + 2) else .fin (i + 1))
 else if x = 92 /\ q = 34 then JD s (i + 1)
 else if Ch x then .sign x (i + k) else .bad 42
def CP (s : ByteArray) (q : Int) (i : Nat) : QP := O1 s q i (AR s i) (Utf8.decode s i).2
theorem R4 {s : ByteArray} {q x : Int} {i k : Nat} (h : s.size <= i) : O1 s q i x k = .bad 42 := by unfold O1; rw [if_pos h]
theorem R8 (s : ByteArray) (q : Int) (i : Nat) (w : World) (hs : s.size <= 1000000) (hi : i <= 1000000) (hlen : s.size <= i) (hT : Bz w) :
  Calls Tryz.prog 206 #[Ui s q, .int .i64 i] w fun e w' => e = .returned (Eh (CP s q i)) /\ Below w.heap.size w w' := by
 have hb0 : Below w.heap.size w (w.alloc (.cells #[.string s, .int .i32 q] 286)) := (Bq _ w).alloc Nr _
 have hA := fun wx hx' => EF s q i wx hs (by omega) hx'
 have HV := hid (show Eh (CP s q i) = Eh (.bad 42) by unfold CP; rw [R4 hlen])
 have hle : (s.size : Int) <= (i : Int) := by omega
 clear hlen
 obtain ⟨V, hV⟩ : ∃ V, Eh (CP s q i) = V := ⟨_, rfl⟩
 rw [hV] at HV |-
 clear hV
 go_enter Tryz.func206, Tryz.ntmps206
 go_wp2_with fail
 refine (hA _ (hT.below hb0)).mono ?_
 rintro e w1 ⟨rfl, hb1⟩
 have hb2 := hb0.trans (hb1.mono hb0.size)
 obtain ⟨a0, a1⟩ := (CY.new hb1).cells
 clear hb1 hA
 go_wp2
 go_ret
 exact ⟨by rw [HV.out]; rfl, hb2⟩
theorem Tq (s : ByteArray) (i : Nat) (w : World) (hs : s.size <= 1000000) (hlen : i < s.size) (hv : validD (s.data.toList.drop i) = true) (hT : Bz w) :
  Calls Tryz.prog 206 #[Ui s 34, .int .i64 i] w fun e w' => e = .returned (Eh (CP s 34 i)) /\ Below w.heap.size w w' := by
 have hb0 : Below w.heap.size w (w.alloc (.cells #[.string s, .int .i32 34] 286)) := (Bq _ w).alloc Nr _
 obtain ⟨x, hx⟩ : ∃ x, AR s i = x := ⟨_, rfl⟩
 obtain ⟨k, hk⟩ : ∃ k, (Utf8.decode s i).2 = k := ⟨_, rfl⟩
 have hA := fun wx hx' => EF s 34 i wx hs (by omega) hx'
 have hb : ¬ ((Utf8.decode s i).1 = 65533 /\ (Utf8.decode s i).2 = 1) := fun hbad => by
  rw [C6 s i hlen hbad.1 hbad.2] at hv; cases hv
 have hrl : runeLen x = (k : Int) := by
  have := Dn (s.data.toList.drop i) (Dj s i hlen) (by rw [Lib.decodeL_drop]; exact hb)
  rw [Lib.decodeL_drop, <- Eo s i hlen, hx, hk] at this
  exact this
 have hk4 : 1 <= k /\ i + k <= s.size := by have := Ce s i hlen; rw [hk] at this; omega
 have hR := fun wx => Tryz.utf8_RuneLen x wx
 rw [hrl] at hR
 rw [hx] at hA
 have hE : Eh (CP s 34 i) = Eh (if x = 34 then .fin (i + 1) else if x = 92 then JD s (i + 1) else if Ch x then .sign x (i + k) else .bad 42) := by
  unfold CP O1
  rw [hx, hk, if_neg (by omega)]
  by_cases h34 : x = 34
  ·rw [if_pos h34, if_pos h34, if_neg (by omega)]
  ·rw [if_neg h34, if_neg h34]; simp
 have HV := hid hE
 obtain ⟨k1, k2⟩ := hk4
 clear hE hx hk hb hrl hv
 obtain ⟨V, hV⟩ : ∃ V, Eh (CP s 34 i) = V := ⟨_, rfl⟩
 rw [hV] at HV |-
 clear hV
 have hlt : (i : Int) < (s.size : Int) := by omega
 have k1i : (1 : Int) <= (k : Int) := by omega
 have k2i : (i : Int) + (k : Int) <= (s.size : Int) := by omega
 go_enter Tryz.func206, Tryz.ntmps206
 go_wp2_with fail
 refine (hA _ (hT.below hb0)).mono ?_
 rintro e w1 ⟨rfl, hb1⟩
 have hb2 := hb0.trans (hb1.mono hb0.size)
 obtain ⟨a0, a1⟩ := (CY.new hb1).cells
 clear hb1 hA hb0
 by_cases h34 : x = 34
 ·have HR := hid (HV.out.trans (congrArg Eh (if_pos h34)))
  subst h34
  clear HV
  go_wp2
  go_ret
  exact ⟨by rw [HR.out]; rfl, hb2⟩
 have HR := hid (HV.out.trans (congrArg Eh (if_neg h34)))
 have b34 : (x == 34) = false := by simpa using h34
 clear h34 HV
 by_cases h92 : x = 92
 ·have HQ := hid (HR.out.trans (congrArg Eh (if_pos h92)))
  subst h92
  clear HR
  go_wp2_with fail
  refine (NW s 34 (i + 1) _ hs (by omega) (hT.below hb2)).mono ?_
  rintro e w3 ⟨rfl, hb5⟩
  have hb6 := hb2.trans (hb5.mono hb2.size)
  clear hb5
  rw [<- HQ.out]
  go_wp2
  go_ret
  exact ⟨rfl, hb6⟩
 have HQ := hid (HR.out.trans (congrArg Eh (if_neg h92)))
 have b92 : (x == 92) = false := by simpa using h92
 clear h92 HR
 have hPl := fun wx => FU x wx
 cases hp : Ch x with
 | true =>
  rw [hp] at hPl HQ
  rw [if_pos rfl] at HQ
  clear hp
  go_wp2_with fail
  refine (hPl _).mono ?_
  rintro e w3 ⟨rfl, hw⟩
  subst w3
  clear hPl
  go_wp2_with fail
  refine (hR _).mono ?_
  rintro e w3 ⟨rfl, hw⟩
  subst w3
  clear hR
  go_wp2
  go_ret
  exact ⟨by rw [HQ.out]; rfl, hb2⟩
 | false =>
  rw [hp] at hPl HQ
  rw [if_neg (by decide)] at HQ
  clear hp
  go_wp2_with fail
  refine (hPl _).mono ?_
  rintro e w3 ⟨rfl, hw⟩
  subst w3
  clear hPl
  go_wp2
  go_ret
  exact ⟨by rw [HQ.out]; rfl, hb2⟩
theorem SY (s : ByteArray) (i : Nat) (w : World) (hs : s.size <= 1000000) (hlen : i < s.size) (hv : validD (s.data.toList.drop i) = true) (hT : Bz w) :
  Calls Tryz.prog 206 #[Ui s 39, .int .i64 i] w fun e w' => e = .returned (Eh (CP s 39 i)) /\ Below w.heap.size w w' := by
 have hb0 : Below w.heap.size w (w.alloc (.cells #[.string s, .int .i32 39] 286)) := (Bq _ w).alloc Nr _
 obtain ⟨x, hx⟩ : ∃ x, AR s i = x := ⟨_, rfl⟩
 obtain ⟨k, hk⟩ : ∃ k, (Utf8.decode s i).2 = k := ⟨_, rfl⟩
 have hA := fun wx hx' => EF s 39 i wx hs (by omega) hx'
 have hb : ¬ ((Utf8.decode s i).1 = 65533 /\ (Utf8.decode s i).2 = 1) := fun hbad => by
  rw [C6 s i hlen hbad.1 hbad.2] at hv; cases hv
 have hrl : runeLen x = (k : Int) := by
  have := Dn (s.data.toList.drop i) (Dj s i hlen) (by rw [Lib.decodeL_drop]; exact hb)
  rw [Lib.decodeL_drop, <- Eo s i hlen, hx, hk] at this
  exact this
 have hk4 : 1 <= k /\ i + k <= s.size := by have := Ce s i hlen; rw [hk] at this; omega
 have hR := fun wx => Tryz.utf8_RuneLen x wx
 rw [hrl] at hR
 rw [hx] at hA
 obtain ⟨y, hy⟩ : ∃ y, AR s (i + 1) = y := ⟨_, rfl⟩
 have hA2 := fun wx hx' => EF s 39 (i + 1) wx hs (by omega) hx'
 rw [hy] at hA2
 have hy2 : y = 39 -> (i : Int) + 1 < (s.size : Int) := fun h => by
  rcases Nat.lt_or_ge (i + 1) s.size with h2 | h2
  ·omega
  ·rw [KC s (i + 1) h2] at hy; omega
 have hE : Eh (CP s 39 i) = Eh (if x = 39 then (if y = 39 then .sign 39 (i + 2) else .fin (i + 1)) else if Ch x then .sign x (i + k) else .bad 42) := by
  unfold CP O1
  rw [hx, hk, if_neg (by omega), hy]
  by_cases h34 : x = 39
  ·rw [if_pos h34, if_pos h34]
   by_cases hy9 : y = 39
   ·rw [if_pos hy9, if_pos ⟨h34, hy9, by have := hy2 hy9; omega⟩]
   ·rw [if_neg hy9, if_neg (fun h => hy9 h.2.1)]
  ·rw [if_neg h34, if_neg h34, if_neg (by omega)]
 have HV := hid hE
 obtain ⟨k1, k2⟩ := hk4
 clear hE hx hk hb hrl hv hy
 obtain ⟨V, hV⟩ : ∃ V, Eh (CP s 39 i) = V := ⟨_, rfl⟩
 rw [hV] at HV |-
 clear hV
 have hlt : (i : Int) < (s.size : Int) := by omega
 have k1i : (1 : Int) <= (k : Int) := by omega
 have k2i : (i : Int) + (k : Int) <= (s.size : Int) := by omega
 go_enter Tryz.func206, Tryz.ntmps206
 go_wp2_with fail
 refine (hA _ (hT.below hb0)).mono ?_
 rintro e w1 ⟨rfl, hb1⟩
 have hb2 := hb0.trans (hb1.mono hb0.size)
 have hr1 : CY w1 w.heap.size s 39 := CY.new hb1
 obtain ⟨a0, a1⟩ := hr1.cells
 clear hb1 hA hb0
 by_cases h39 : x = 39
 ·have HR := hid (HV.out.trans (congrArg Eh (if_pos h39)))
  subst h39
  clear HV
  by_cases hy9 : y = 39
  ·have HQ := hid (HR.out.trans (congrArg Eh (if_pos hy9)))
   have hlt1 := hy2 hy9
   clear HR
   subst hy9
   clear hy2
   go_wp2_with fail
   refine (hA2 _ (hT.below hb2)).mono ?_
   rintro e w2 ⟨rfl, hb3⟩
   have hb4 := hb2.trans (hb3.mono hb2.size)
   obtain ⟨c0, c1⟩ := (hr1.below hb3).cells
   clear hb3 hA2 a0 a1
   go_wp2
   go_ret
   exact ⟨by rw [HQ.out]; rfl, hb4⟩
  ·have HQ := hid (HR.out.trans (congrArg Eh (if_neg hy9)))
   have by9 : (y == 39) = false := by simpa using hy9
   clear HR hy2 hy9
   go_wp2_with fail
   refine (hA2 _ (hT.below hb2)).mono ?_
   rintro e w2 ⟨rfl, hb3⟩
   have hb4 := hb2.trans (hb3.mono hb2.size)
   obtain ⟨c0, c1⟩ := (hr1.below hb3).cells
   clear hb3 hA2 a0 a1
   go_wp2
   go_ret
   exact ⟨by rw [HQ.out]; rfl, hb4⟩
 have HQ := hid (HV.out.trans (congrArg Eh (if_neg h39)))
 have b39 : (x == 39) = false := by simpa using h39
 clear h39 HV hA2 hy2
 by_cases h92 : x = 92
 ·subst h92
  have hPl := fun wx => FU 92 wx
  rw [show Ch 92 = true from rfl] at hPl HQ
  rw [if_pos rfl] at HQ
  go_wp2_with fail
  refine (hPl _).mono ?_
  rintro e w3 ⟨rfl, hw⟩
  subst w3
  clear hPl
  go_wp2_with fail
  refine (hR _).mono ?_
  rintro e w3 ⟨rfl, hw⟩
  subst w3
  clear hR
  go_wp2
  go_ret
  exact ⟨by rw [HQ.out]; rfl, hb2⟩
 have b92 : (x == 92) = false := by simpa using h92
 clear h92
 have hPl := fun wx => FU x wx
 cases hp : Ch x with
 | true =>
  rw [hp] at hPl HQ
  rw [if_pos rfl] at HQ
  clear hp
  go_wp2_with fail
  refine (hPl _).mono ?_
  rintro e w3 ⟨rfl, hw⟩
  subst w3
  clear hPl
  go_wp2_with fail
  refine (hR _).mono ?_
  rintro e w3 ⟨rfl, hw⟩
  subst w3
  clear hR
  go_wp2
  go_ret
  exact ⟨by rw [HQ.out]; rfl, hb2⟩
 | false =>
  rw [hp] at hPl HQ
  rw [if_neg (by decide)] at HQ
  clear hp
  go_wp2_with fail
  refine (hPl _).mono ?_
  rintro e w3 ⟨rfl, hw⟩
  subst w3
  clear hPl
  go_wp2
  go_ret
  exact ⟨by rw [HQ.out]; rfl, hb2⟩
theorem Rm (s : ByteArray) (q : Int) (hq : q = 34 \/ q = 39) (i : Nat) (w : World) (hs : s.size <= 1000000) (hi : i <= 1000000) (hv : i < s.size -> validD (s.data.toList.drop i) = true) (hT : Bz w) :
  Calls Tryz.prog 206 #[Ui s q, .int .i64 i] w fun e w' => e = .returned (Eh (CP s q i)) /\ Below w.heap.size w w' := by
 rcases Nat.lt_or_ge i s.size with h | h
 ·rcases hq with rfl | rfl
  ·exact Tq s i w hs h (hv h) hT
  ·exact SY s i w hs h (hv h) hT
 ·exact R8 s q i w hs hi h hT
theorem NZ {s : ByteArray} {i : Nat} (hi : i < s.size) (hv : validD (s.data.toList.drop i) = true) : validD (s.data.toList.drop (i + (Utf8.decode s i).2)) = true := by
 rw [<- GU s i hi (fun hbad => by rw [C6 s i hi hbad.1 hbad.2] at hv; cases hv)]
 exact hv
theorem FE (s : ByteArray) (i : Nat) (hi : i < s.size) : s.data.toList.drop i = s[i]'hi :: s.data.toList.drop (i + 1) := by
 rw [List.drop_eq_getElem_cons (by rw [<- Lib.size_eq]; exact hi)]; rfl
theorem Dv {s : ByteArray} {i : Nat} (hi : i < s.size) (hv : validD (s.data.toList.drop i) = true) (hb : AR s i < 128) : validD (s.data.toList.drop (i + 1)) = true := by
 have h := H6 s i hi _ rfl hb
 rw [FE s i hi, validD_cons _ _ (by omega)] at hv
 exact hv
theorem NP {c : UInt8} {d : Nat} (h : JC c = some d) : c.toNat < 128 := by
 have hall : ∀ n : Fin 256, (JC (UInt8.ofNat n.val)).isSome = true -> n.val < 128 := by decide +kernel
 have := hall ⟨c.toNat, c.toNat_lt⟩
 simp only [UInt8.ofNat_toNat] at this
 exact this (by rw [h]; rfl)
theorem KO : ∀ (k : Nat) (l : List UInt8) (acc v : Nat), C9 acc (l.take k) = some v -> k <= l.length -> validD l = true -> validD (l.drop k) = true
 | 0, _, _, _, _, _, hv => hv
 | k + 1, [], _, _, _, hk, _ => by simp at hk
 | k + 1, c :: t, acc, v, h, hk, hv => by
  rw [List.take_succ_cons] at h
  unfold C9 at h
  split at h
  ·cases h
  ·rename_i d hd
   rw [validD_cons c t (NP hd)] at hv
   exact KO k t _ v h (by simpa using hk) hv
theorem QB {s : ByteArray} {p k : Nat} {r : Int} {tq : Nat} (hp : p <= s.size) (hv : p < s.size -> validD (s.data.toList.drop p) = true) (hk : 0 < k) (h : El s p k = .sign r tq) : tq = p + k /\ tq <= s.size /\ (tq < s.size -> validD (s.data.toList.drop tq) = true) /\ Lib.validRune r = true := by
 unfold El Hd at h
 by_cases hl : (s.data.toList.drop p).length < k
 ·rw [if_pos hl] at h; cases h
 ·rw [if_neg hl] at h
  cases hx : C9 0 ((s.data.toList.drop p).take k) with
  | none => rw [hx] at h; cases h
  | some v =>
   rw [hx] at h
   dsimp only at h
   cases hvr : Lib.validRune (v : Int) with
   | false => rw [hvr] at h; cases h
   | true =>
    rw [hvr] at h
    injection h with h1 h2
    have hlen : p + k <= s.size := by rw [List.length_drop, <- Lib.size_eq] at hl; omega
    subst h2
    refine ⟨rfl, hlen, fun hlt => ?_, by rw [<- h1]; exact hvr⟩
    have := KO k _ 0 v hx (by omega) (hv (by omega))
    rw [List.drop_drop] at this
    exact this
theorem NY {x : Int} (h : BT [34, 92, 47] x = true) : x = 34 \/ x = 92 \/ x = 47 := by
 unfold BT at h; simpa using h
theorem SG {x y : Int} (h : Cn x = some y) : (x = 110 /\ y = 10) \/ (x = 116 /\ y = 9) \/ (x = 114 /\ y = 13) := by
 unfold Cn at h
 split at h
 ·injection h with h; omega
 ·split at h
  ·injection h with h; omega
  ·split at h
   ·injection h with h; omega
   ·cases h
theorem QF {s : ByteArray} {p : Nat} {r : Int} {tq : Nat} (hp : p <= s.size) (hv : p < s.size -> validD (s.data.toList.drop p) = true) (h : JD s p = .sign r tq) : p < tq /\ tq <= s.size /\ (tq < s.size -> validD (s.data.toList.drop tq) = true) /\ Lib.validRune r = true := by
 unfold JD JF at h
 split at h
 ·cases h
 ·rename_i hlt
  have hlt : p < s.size := by omega
  have key : AR s p < 128 -> tq = p + 1 -> p < tq /\ tq <= s.size /\ (tq < s.size -> validD (s.data.toList.drop tq) = true) := fun hb e => by
   subst e
   exact ⟨by omega, by omega, fun _ => Dv hlt (hv hlt) hb⟩
  have knum : AR s p < 128 -> ∀ k, 0 < k -> El s (p + 1) k = .sign r tq -> p < tq /\ tq <= s.size /\ (tq < s.size -> validD (s.data.toList.drop tq) = true) /\ Lib.validRune r = true := fun hb k hk e => by
   obtain ⟨h1, h2, h3, h4⟩ := QB (by omega) (fun _ => Dv hlt (hv hlt) hb) hk e
   exact ⟨by omega, h2, h3, h4⟩
  split at h
  ·rename_i hm
   injection h with h1 h2
   rcases NY hm with e | e | e <;> (have := key (by omega) h2.symm; exact ⟨this.1, this.2.1, this.2.2, by rw [<- h1, e]; rfl⟩)
  ·split at h
   ·rename_i e
    injection h with h1 h2
    have := key (by omega) h2.symm
    exact ⟨this.1, this.2.1, this.2.2, by rw [<- h1]; rfl⟩
   ·split at h
    ·exact knum (by omega) 2 (by omega) h
    ·split at h
     ·exact knum (by omega) 4 (by omega) h
     ·split at h
      ·rename_i y hy
       injection h with h1 h2
       subst h1
       rcases SG hy with ⟨e, rfl⟩ | ⟨e, rfl⟩ | ⟨e, rfl⟩ <;> (have := key (by omega) h2.symm; exact ⟨this.1, this.2.1, this.2.2, rfl⟩)
      ·cases h
theorem Ee (l : List UInt8) (hne : l ≠ []) (h : ¬ ((decodeL l).1 = 65533 /\ (decodeL l).2 = 1)) : Lib.validRune ((decodeL l).1 : Int) = true := by
 have h1 := decodeL_rune l
 have h2 := Dn l hne h
 have h3 := decodeL_width l
 unfold runeLen at h2
 unfold Lib.validRune
 rw [decide_eq_true_eq]
 split at h2
 ·omega
 ·split at h2
  ·omega
  ·split at h2
   ·omega
   ·split at h2
    ·omega
    ·omega
theorem LF {s : ByteArray} {i : Nat} (hi : i < s.size) (hv : validD (s.data.toList.drop i) = true) : Lib.validRune (AR s i) = true := by
 rw [Eo s i hi, <- Lib.decodeL_drop]
 exact Ee _ (Dj s i hi) (fun hbad => by rw [Lib.decodeL_drop] at hbad; rw [C6 s i hi hbad.1 hbad.2] at hv; cases hv)
theorem Eu {s : ByteArray} {q : Int} {i : Nat} {r : Int} {tq : Nat} (hi : i <= s.size) (hv : i < s.size -> validD (s.data.toList.drop i) = true) (h : CP s q i = .sign r tq) : i < s.size /\ i < tq /\ tq <= s.size /\ (tq < s.size -> validD (s.data.toList.drop tq) = true) /\ Lib.validRune r = true := by
 unfold CP O1 at h
 split at h
 ·cases h
 ·rename_i hlt
  have hlt : i < s.size := by omega
  refine ⟨hlt, ?_⟩
  split at h
  ·rename_i hq
   split at h
   ·rename_i h39
    injection h with h1 h2
    subst h2
    have hv1 := Dv hlt (hv hlt) (by omega)
    have hv2 := Dv h39.2.2 hv1 (by omega)
    exact ⟨by omega, by omega, fun _ => hv2, by rw [<- h1]; rfl⟩
   ·cases h
  ·split at h
   ·rename_i h92
    obtain ⟨h1, h2, h3, h4⟩ := QF (by omega) (fun _ => Dv hlt (hv hlt) (by omega)) h
    exact ⟨by omega, h2, h3, h4⟩
   ·split at h
    ·injection h with h1 h2
     subst h2
     have := Ce s i hlt
     exact ⟨by omega, by omega, fun _ => NZ hlt (hv hlt), by rw [<- h1]; exact LF hlt (hv hlt)⟩
    ·cases h
def B8 (s : ByteArray) (q : Int) : Nat -> Nat -> List QP
 | 0, _ => []
 | f + 1, i => match CP s q i with
  | .sign r tq => .sign r tq :: B8 s q f tq
  | .fin tq => [.fin tq]
  | .bad e => [.bad e]
def AT (s : ByteArray) (q : Int) (i : Nat) : List QP := B8 s q (s.size + 1 - i) i
theorem G8 (s : ByteArray) (q : Int) : ∀ (f g i : Nat), i <= s.size -> (i < s.size -> validD (s.data.toList.drop i) = true) -> s.size + 1 - i <= f -> s.size + 1 - i <= g -> B8 s q f i = B8 s q g i
 | 0, _, i, hi, _, hf, _ => by omega
 | _ + 1, 0, i, hi, _, _, hg => by omega
 | f + 1, g + 1, i, hi, hv, hf, hg => by
  unfold B8
  cases ho : CP s q i with
  | fin tq => rfl
  | bad e => rfl
  | sign r tq =>
   obtain ⟨h1, h2, h3, h4, _⟩ := Eu hi hv ho
   exact congrArg _ (G8 s q f g tq h3 h4 (by omega) (by omega))
theorem KY {s : ByteArray} {q : Int} {i : Nat} {r : Int} {tq : Nat} (hi : i <= s.size) (hv : i < s.size -> validD (s.data.toList.drop i) = true) (h : CP s q i = .sign r tq) : AT s q i = .sign r tq :: AT s q tq := by
 obtain ⟨h1, h2, h3, h4, _⟩ := Eu hi hv h
 unfold AT
 obtain ⟨n, hn⟩ : ∃ n, s.size + 1 - i = n + 1 := ⟨s.size - i, by omega⟩
 rw [hn]
 show (match CP s q i with | .sign r tq => QP.sign r tq :: B8 s q n tq | .fin tq => [QP.fin tq] | .bad e => [QP.bad e]) = _
 rw [h]
 exact congrArg _ (G8 s q _ _ tq h3 h4 (by omega) (by omega))
theorem MI {s : ByteArray} {q : Int} {i : Nat} {tq : Nat} (hi : i <= s.size) (h : CP s q i = .fin tq) : AT s q i = [.fin tq] := by
 unfold AT
 obtain ⟨n, hn⟩ : ∃ n, s.size + 1 - i = n + 1 := ⟨s.size - i, by omega⟩
 rw [hn]
 show (match CP s q i with | .sign r tq => QP.sign r tq :: B8 s q n tq | .fin tq => [QP.fin tq] | .bad e => [QP.bad e]) = _
 rw [h]
theorem MD {s : ByteArray} {q : Int} {i : Nat} {e : Int} (hi : i <= s.size) (h : CP s q i = .bad e) : AT s q i = [.bad e] := by
 unfold AT
 obtain ⟨n, hn⟩ : ∃ n, s.size + 1 - i = n + 1 := ⟨s.size - i, by omega⟩
 rw [hn]
 show (match CP s q i with | .sign r tq => QP.sign r tq :: B8 s q n tq | .fin tq => [QP.fin tq] | .bad e => [QP.bad e]) = _
 rw [h]
def C8 : List QP -> List UInt8 -> List UInt8 × Nat × Int
 | [], _ => ([], 0, 42)
 | .sign r _ :: t, acc => C8 t (acc ++ encodeRune r)
 | .fin tq :: _, acc => (acc, tq, 0)
 | .bad e :: _, _ => ([], 0, e)
def D8 (s : ByteArray) (p : Int) : Option Int := if p < 0 then none else if h : p.toNat < s.size then (if s[p.toNat]'h = 34 then some 34 else if s[p.toNat]'h = 39 then some 39 else none) else none
def B6 (s : ByteArray) (p : Int) : List UInt8 × Nat × Int :=
 if validD s.data.toList then match D8 s p with
  | some q => C8 (AT s q (p.toNat + 1)) []
  | none => ([], 0, 42)
 else ([], 0, 40)
end
end Go.Proofs.YtaogfdffgdglkaaGreatDoor
