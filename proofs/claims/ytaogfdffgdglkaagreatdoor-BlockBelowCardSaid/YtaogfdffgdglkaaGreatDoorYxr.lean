/- What is proved: a part of the walk of the program and of its plain laws; no condition beside those that each theorem names. -/
import Derived.Test.YtaogfdffgdglkaaGreatDoorYt
import Derived.Test.YtaogfdffgdglkaaGreatDoorYxl
import Derived.Test.YtaogfdffgdglkaaGreatDoorYa
namespace Go.Proofs.YtaogfdffgdglkaaGreatDoor
open Go Go.RowKit Go.Lib
set_option linter.unusedSimpArgs false
set_option linter.unusedVariables false
section
theorem Vn {l m : List UInt8} {i : Nat} (h : i < l.length) (bs : List UInt8) : C3 (l ++ m) i bs = Bm bs (l.getD i 0) := by
 unfold C3
 rw [K6 _ _ _ h, List.length_append, decide_eq_true (by omega), Bool.true_and]
theorem Vc {c : UInt8} {d : Nat} (r : List UInt8) (hv : validD (91 :: r) = true) : AK (91 :: r) 0 0 = .tok 8 [] 0 :: AK (91 :: r) 1 1 :=
 G3 hv (by simp) (by rfl) (by rfl) (by rfl)
def D4 (n : Nat) : UInt8 := if n < 10 then UInt8.ofNat (48 + n) else UInt8.ofNat (87 + n)
def Cl (r : Nat) : List UInt8 :=
 if r = 10 then [92, 110] else if r = 9 then [92, 116] else if r = 13 then [92, 114]
 else if r = 34 \/ r = 92 then [92, UInt8.ofNat r]
 else if Aq r then encodeRune r else [92, 120, D4 (r / 16), D4 (r % 16)]
def Aw (l : List UInt8) : List UInt8 := 34 :: ((AH l).flatMap Cl ++ [34])
def FN (r : Nat) : Prop := M5 (r : Int) = true
theorem FY : ∀ (n : Nat) (l : List UInt8), l.length <= n -> validD l = true -> ∀ r ∈ AH l, FN r
 | n, [], _, _, r, h => by rw [P8] at h; simp at h
 | 0, c :: t, h, _, _, _ => by simp at h
 | n + 1, c :: t, h, hv, r, hr => by
  have hne : c :: t ≠ [] := by simp
  have hb : ¬ ((decodeL (c :: t)).1 = 65533 /\ (decodeL (c :: t)).2 = 1) := fun h => by rw [validD_step _ hne, if_pos h] at hv; cases hv
  have hw := decodeL_width (c :: t)
  rw [Cs _ hne] at hr
  rcases List.mem_cons.1 hr with rfl | hr
  ·have hvr := Ee _ hne hb
   unfold Lib.validRune at hvr
   rw [decide_eq_true_eq] at hvr
   unfold FN
   rw [GX]; omega
  ·exact FY n _ (by rw [List.length_drop]; simp at h |-; omega) (Gc _ hne hv) r hr
theorem KL : ∀ (n : Nat) (l : List UInt8), l.length <= n -> validD l = true -> (AH l).flatMap (fun r : Nat => encodeRune r) = l
 | n, [], _, _ => rfl
 | 0, c :: t, h, _ => by simp at h
 | n + 1, c :: t, h, hv => by
  have hne : c :: t ≠ [] := by simp
  have hb : ¬ ((decodeL (c :: t)).1 = 65533 /\ (decodeL (c :: t)).2 = 1) := fun h => by rw [validD_step _ hne, if_pos h] at hv; cases hv
  have hw := decodeL_width (c :: t)
  rw [Cs _ hne, List.flatMap_cons, KL n _ (by rw [List.length_drop]; simp at h |-; omega) (Gc _ hne hv), encode_decode _ hne hb, List.take_append_drop]
theorem Pq : ∀ q : Fin 16, JC (D4 q.val) = some q.val /\ (D4 q.val).toNat < 128 /\ 32 <= (D4 q.val).toNat /\ (D4 q.val).toNat ≠ 127 := by decide +kernel
theorem Nx (r : Nat) (h : r < 128) : C9 0 [D4 (r / 16), D4 (r % 16)] = some r /\ (D4 (r / 16)).toNat < 128 /\ (D4 (r % 16)).toNat < 128 ∧
  32 <= (D4 (r / 16)).toNat /\ 32 <= (D4 (r % 16)).toNat /\ (D4 (r / 16)).toNat ≠ 127 /\ (D4 (r % 16)).toNat ≠ 127 := by
 obtain ⟨a1, a2, a3, a4⟩ := Pq ⟨r / 16, by omega⟩
 obtain ⟨b1, b2, b3, b4⟩ := Pq ⟨r % 16, by omega⟩
 refine ⟨?_, a2, b2, a3, b3, a4, b4⟩
 unfold C9
 rw [a1]
 show C9 (0 * 16 + r / 16) [D4 (r % 16)] = some r
 unfold C9
 rw [b1]
 show some ((0 * 16 + r / 16) * 16 + r % 16) = some r
 congr 1; omega
theorem Ks {r : Nat} (h : Aq r = false) : r < 128 := by
 unfold Aq Ch at h
 simp at h
 omega
theorem OH (r : Nat) (h : FN r) : 0 < (encodeRune (r : Int)).length := by
 have h1 := Iu r h []
 have h2 := decodeL_width (encodeRune (r : Int) ++ [])
 rw [h1] at h2
 exact h2
theorem DA (c : UInt8) (t : List UInt8) (h : c.toNat < 128) : Lu (c :: t) = if BT [34, 92, 47] (c.toNat : Int) then .sign (c.toNat : Int) 1 else if (c.toNat : Int) = 48 then .sign 0 1
  else if (c.toNat : Int) = 120 then KW 1 (EQ t 2) else if (c.toNat : Int) = 117 then KW 1 (EQ t 4) else match Cn (c.toNat : Int) with | some y => .sign y 1 | none => .bad 41 := by
 unfold Lu
 rw [if_neg (by simp), EJ c t h, List.drop_one, List.tail_cons]
 rfl
theorem PA {a b : UInt8} {r : Nat} (h1 : C9 0 [a, b] = some r) (hr : r < 128) (m : List UInt8) : EQ (a :: b :: m) 2 = .sign r 2 := by
 have hvr : Lib.validRune (r : Int) = true := by unfold Lib.validRune; rw [decide_eq_true_eq]; omega
 have h2 : Hd (a :: b :: m) 2 = some r := by
  unfold Hd
  rw [if_neg (by simp), show (a :: b :: m).take 2 = [a, b] from rfl, h1]
  simp only [hvr, if_true]
 unfold EQ
 rw [h2]
theorem O4 {r : Nat} (h : FN r) (m : List UInt8) : ET 34 (Cl r ++ m) = .sign r (Cl r).length := by
 have e92 : ∀ t : List UInt8, ET 34 (92 :: t) = KW 1 (Lu t) := fun t => by
  unfold ET
  rw [if_neg (by simp), EJ _ _ (by decide), if_neg (by decide), if_pos ⟨rfl, rfl⟩]
  rfl
 unfold Cl
 split
 ·rename_i e; subst e
  rw [show [(92 : UInt8), 110] ++ m = 92 :: 110 :: m from rfl, e92, DA _ _ (by decide)]
  simp [BT, Cn, KW]
 ·split
  ·rename_i e; subst e
   rw [show [(92 : UInt8), 116] ++ m = 92 :: 116 :: m from rfl, e92, DA _ _ (by decide)]
   simp [BT, Cn, KW]
  ·split
   ·rename_i e; subst e
    rw [show [(92 : UInt8), 114] ++ m = 92 :: 114 :: m from rfl, e92, DA _ _ (by decide)]
    simp [BT, Cn, KW]
   ·split
    ·rename_i e
     rcases e with rfl | rfl
     ·rw [show [(92 : UInt8), UInt8.ofNat 34] ++ m = 92 :: 34 :: m from rfl, e92, DA _ _ (by decide)]
      simp [BT, Cn, KW]
     ·rw [show [(92 : UInt8), UInt8.ofNat 92] ++ m = 92 :: 92 :: m from rfl, e92, DA _ _ (by decide)]
      simp [BT, Cn, KW]
    ·rename_i hq
     split
     ·rename_i hp
      have h0 := OH r h
      have hd := Iu r h m
      have hne : encodeRune (r : Int) ++ m ≠ [] := by intro e; rw [List.append_eq_nil_iff] at e; rw [e.1] at h0; simp at h0
      have hr : B1 (encodeRune (r : Int) ++ m) = (r : Int) := by unfold B1; rw [if_neg hne, hd]; simp
      unfold ET
      rw [if_neg (fun e => hne (List.length_eq_zero_iff.1 e)), hr, if_neg (by omega), if_neg (by omega), hd]
      unfold Aq at hp
      rw [if_pos hp]
     ·rename_i hp
      have hlt := Ks (by simpa using hp)
      obtain ⟨h1, h2, h3, _⟩ := Nx r hlt
      rw [show [(92 : UInt8), 120, D4 (r / 16), D4 (r % 16)] ++ m = 92 :: 120 :: D4 (r / 16) :: D4 (r % 16) :: m from rfl, e92, DA _ _ (by decide), if_neg (by simp [BT]), if_neg (by simp), if_pos (by simp)]
      have hn : EQ (D4 (r / 16) :: D4 (r % 16) :: m) 2 = .sign r 2 := PA h1 (by omega) m
      rw [hn]
      simp [KW]
theorem P6 {r : Nat} (h : FN r) : 1 <= (Cl r).length := by
 unfold Cl
 repeat' split
 all_goals first | (have := OH r h; omega) | simp
theorem Hx (m : List UInt8) : ∀ (rs : List Nat) (f : Nat) (acc : List UInt8) (n : Nat), (∀ r ∈ rs, FN r) -> rs.length < f →
  BF 34 f (rs.flatMap Cl ++ 34 :: m) acc n = (acc ++ rs.flatMap (fun r : Nat => encodeRune r), n + (rs.flatMap Cl).length + 1, 0)
 | [], 0, _, _, _, h => by simp at h
 | [], f + 1, acc, n, _, _ => by
  unfold BF
  have : ET 34 ([].flatMap Cl ++ 34 :: m) = .fin 1 := by
   unfold ET
   rw [List.flatMap_nil, List.nil_append, if_neg (by simp), EJ _ _ (by decide)]
   simp
  rw [this]
  simp
 | r :: rs, 0, _, _, _, h => by simp at h
 | r :: rs, f + 1, acc, n, h, hf => by
  have hr := h r (List.mem_cons_self ..)
  have h1 := O4 hr (rs.flatMap Cl ++ 34 :: m)
  unfold BF
  rw [List.flatMap_cons, List.append_assoc, h1]
  show BF 34 f ((Cl r ++ (rs.flatMap Cl ++ 34 :: m)).drop (Cl r).length) (acc ++ encodeRune r) (n + (Cl r).length) = _
  rw [List.drop_left, Hx m rs f _ _ (fun x hx => h x (List.mem_cons_of_mem _ hx)) (by simp at hf; omega)]
  simp [Nat.add_assoc]
theorem OQ : ∀ rs : List Nat, (∀ r ∈ rs, FN r) -> rs.length <= (rs.flatMap Cl).length
 | [], _ => by simp
 | r :: rs, h => by
  have h1 := P6 (h r (List.mem_cons_self ..))
  have h2 := OQ rs (fun x hx => h x (List.mem_cons_of_mem _ hx))
  rw [List.flatMap_cons, List.length_append, List.length_cons]; omega
theorem Qs {r : Nat} (h : FN r) (m : List UInt8) : validD (encodeRune (r : Int) ++ m) = validD m /\ AH (encodeRune (r : Int) ++ m) = r :: AH m := by
 have h0 := OH r h
 have hd := Iu r h m
 have hne : encodeRune (r : Int) ++ m ≠ [] := by intro e; rw [List.append_eq_nil_iff] at e; rw [e.1] at h0; simp at h0
 constructor
 ·rw [validD_step _ hne, hd, if_neg, List.drop_left]
  rintro ⟨h1, h2⟩
  have := Np (r : Int) h1
  omega
 ·rw [Cs _ hne, hd, List.drop_left]; simp
theorem BX {c : UInt8} (hc : c.toNat < 128) (h1 : 32 <= c.toNat) (h2 : c.toNat ≠ 127) (m : List UInt8) : validD (c :: m) = validD m /\ (AH (c :: m)).all Aq = (AH m).all Aq := by
 refine ⟨validD_cons c m hc, ?_⟩
 rw [ML c m hc, List.all_cons]
 have : Aq c.toNat = true := by unfold Aq Ch; simp; omega
 rw [this, Bool.true_and]
theorem D9 (c : UInt8) (hc : c.toNat < 128) (h1 : 32 <= c.toNat) (h2 : c.toNat ≠ 127) (m : List UInt8) : validD (92 :: c :: m) = validD m /\ (AH (92 :: c :: m)).all Aq = (AH m).all Aq := by
 obtain ⟨a1, a2⟩ := BX (c := 92) (by decide) (by decide) (by decide) (c :: m)
 obtain ⟨b1, b2⟩ := BX hc h1 h2 m
 exact ⟨a1.trans b1, a2.trans b2⟩
theorem Mn {r : Nat} (h : FN r) (m : List UInt8) : validD (Cl r ++ m) = validD m /\ (AH (Cl r ++ m)).all Aq = (AH m).all Aq := by
 unfold Cl
 split
 ·exact D9 110 (by decide) (by decide) (by decide) m
 ·split
  ·exact D9 116 (by decide) (by decide) (by decide) m
  ·split
   ·exact D9 114 (by decide) (by decide) (by decide) m
   ·split
    ·rename_i e
     rcases e with rfl | rfl
     ·exact D9 34 (by decide) (by decide) (by decide) m
     ·exact D9 92 (by decide) (by decide) (by decide) m
    ·split
     ·rename_i hp
      obtain ⟨a, b⟩ := Qs h m
      exact ⟨a, by rw [b, List.all_cons, hp, Bool.true_and]⟩
     ·rename_i hp
      have hlt := Ks (by simpa using hp)
      obtain ⟨_, h2, h3, h4, h5, h6, h7⟩ := Nx r hlt
      obtain ⟨a1, a2⟩ := D9 120 (by decide) (by decide) (by decide) (D4 (r / 16) :: D4 (r % 16) :: m)
      obtain ⟨b1, b2⟩ := BX h2 h4 h6 (D4 (r % 16) :: m)
      obtain ⟨c1, c2⟩ := BX h3 h5 h7 m
      exact ⟨a1.trans (b1.trans c1), a2.trans (b2.trans c2)⟩
theorem J1 (m : List UInt8) : ∀ rs : List Nat, (∀ r ∈ rs, FN r) -> validD (rs.flatMap Cl ++ m) = validD m /\ (AH (rs.flatMap Cl ++ m)).all Aq = (AH m).all Aq
 | [], _ => ⟨rfl, rfl⟩
 | r :: rs, h => by
  obtain ⟨a, b⟩ := Mn (h r (List.mem_cons_self ..)) (rs.flatMap Cl ++ m)
  obtain ⟨c, d⟩ := J1 m rs (fun x hx => h x (List.mem_cons_of_mem _ hx))
  rw [List.flatMap_cons, List.append_assoc]
  exact ⟨a.trans c, b.trans d⟩
theorem Ns {l : List UInt8} (hv : validD l = true) (m : List UInt8) : validD (Aw l ++ m) = validD m /\ (AH (Aw l ++ m)).all Aq = (AH m).all Aq := by
 unfold Aw
 rw [List.cons_append, List.append_assoc]
 obtain ⟨a1, a2⟩ := BX (c := 34) (by decide) (by decide) (by decide) ((AH l).flatMap Cl ++ ([34] ++ m))
 obtain ⟨b1, b2⟩ := J1 ([34] ++ m) (AH l) (FY _ l Nr hv)
 obtain ⟨c1, c2⟩ := BX (c := 34) (by decide) (by decide) (by decide) m
 exact ⟨a1.trans (b1.trans c1), a2.trans (b2.trans c2)⟩
theorem N5 {l : List UInt8} (hv : validD l = true) (b m : List UInt8) (hbm : validD (b ++ (Aw l ++ m)) = true) :
  B6 ⟨(b ++ (Aw l ++ m)).toArray⟩ (b.length : Int) = (l, b.length + (Aw l).length, 0) := by
 have hs := FY _ l Nr hv
 have hq : EA (b ++ (Aw l ++ m)) b.length 34 := by
  refine ⟨by simp [Aw], .inl ⟨?_, rfl⟩⟩
  have := DM b (Aw l ++ m) 0
  rw [Nat.add_zero] at this
  rw [this]; rfl
 have hfl := OQ _ hs
 rw [Gz hq hbm, <- List.drop_drop, List.drop_left]
 have hd : (Aw l ++ m).drop 1 = (AH l).flatMap Cl ++ 34 :: m := by unfold Aw; simp
 have hfuel : (AH l).length < (b ++ (Aw l ++ m)).length + 1 - (b.length + 1) := by
  unfold Aw
  rw [List.length_append, List.length_append, List.length_cons, List.length_append]
  omega
 rw [hd, Hx m (AH l) _ _ _ hs hfuel, KL _ l Nr hv]
 unfold Aw
 simp; omega
end
section
def BB (b m : List UInt8) (d : Nat) : List TP := AK (b ++ m) b.length d
theorem V0 (b m : List UInt8) : (b ++ m).getD b.length 0 = m.getD 0 0 := by have := DM b m 0; rwa [Nat.add_zero] at this
theorem SM (b m : List UInt8) (bs : List UInt8) : C3 (b ++ m) b.length bs = C3 m 0 bs := by have := BS b m 0 bs; rwa [Nat.add_zero] at this
theorem Ew (c : UInt8) (m : List UInt8) (bs : List UInt8) : C3 (c :: m) 0 bs = Bm bs c := by
 unfold C3
 simp
theorem FH (b : List UInt8) (d : Nat) : BB b [] d = [] := KU d (by simp)
theorem CJ {b m : List UInt8} (hv : validD (b ++ 32 :: m) = true) (d : Nat) : BB b (32 :: m) d = BB (b ++ [32]) m d := by
 unfold BB
 rw [Hy hv (by simp) (by rw [SM, Ew]; rfl)]
 simp
theorem E9 {b m : List UInt8} {c : UInt8} {d k d' : Nat} (hv : validD (b ++ c :: m) = true) (h32 : Bm [32] c = false) (h35 : Bm [35] c = false) (ho : CU (b ++ c :: m) b.length d = .ok k [] (b.length + 1) d') : BB b (c :: m) d = .tok k [] b.length :: BB (b ++ [c]) m d' := by
 unfold BB
 rw [G3 hv (by simp) (by rw [SM, Ew]; exact h32) (by unfold BV; rw [SM, Ew, h35]; rfl) ho]
 simp
theorem Od {b m : List UInt8} (c : UInt8) (hc : c = 91 \/ c = 123) (hv : validD (b ++ c :: m) = true) (d : Nat) : BB b (c :: m) d = .tok (if c = 91 then 8 else 10) [] b.length :: BB (b ++ [c]) m (d + 1) := by
 refine E9 hv (by rcases hc with rfl | rfl <;> rfl) (by rcases hc with rfl | rfl <;> rfl) ?_
 unfold CU
 rw [V0]
 rcases hc with rfl | rfl <;> rfl
theorem GP {b m : List UInt8} (c : UInt8) (hc : c = 44 \/ c = 93 \/ c = 125) (hv : validD (b ++ c :: m) = true) : BB b (c :: m) 1 = .tok (if c = 44 then 7 else if c = 93 then 9 else 11) [] b.length :: BB (b ++ [c]) m (if c = 44 then 1 else 0) := by
 refine E9 hv (by rcases hc with rfl | rfl | rfl <;> rfl) (by rcases hc with rfl | rfl | rfl <;> rfl) ?_
 unfold CU
 rw [V0]
 rcases hc with rfl | rfl | rfl <;> rfl
theorem Hz {b m : List UInt8} (hv : validD (b ++ 58 :: 32 :: m) = true) (d : Nat) : BB b (58 :: 32 :: m) d = .tok 6 [] b.length :: BB (b ++ [58]) (32 :: m) d := by
 refine E9 hv rfl rfl ?_
 unfold CU
 rw [V0]
 show D0 (b ++ 58 :: 32 :: m) b.length d = _
 unfold D0
 rw [if_pos]
 rw [Cd b (58 :: 32 :: m) 1 d]
 unfold AF C2 C3
 simp [Bm]
theorem IOq {b m : List UInt8} (hv : validD (b ++ 45 :: 32 :: m) = true) : BB b (45 :: 32 :: m) 0 = .tok 5 [] b.length :: BB (b ++ [45]) (32 :: m) 0 := by
 refine E9 hv rfl rfl ?_
 unfold CU
 rw [V0]
 show DW (b ++ 45 :: 32 :: m) b.length 0 = _
 unfold DW
 rw [if_pos]
 ·rfl
 ·rw [EC b (45 :: 32 :: m) 1]
  unfold C2 C3
  simp [Bm]
theorem CH {l : List UInt8} (hv : validD l = true) (b m : List UInt8) (d : Nat) (hbm : validD (b ++ (Aw l ++ m)) = true) (hm : (AF m 0 d || C3 m 0 [58]) = true) :
  BB b (Aw l ++ m) d = .tok 2 l b.length :: BB (b ++ Aw l) m d := by
 have hr := N5 hv b m hbm
 have hc : (b ++ (Aw l ++ m)).getD b.length 0 = 34 := by rw [V0]; rfl
 have hi : ∀ bs, C3 (Aw l ++ m) 0 bs = Bm bs 34 := fun bs => by
  rw [Vn (by simp [Aw])]; rfl
 have ho : CU (b ++ (Aw l ++ m)) b.length d = .ok 2 l (b.length + (Aw l).length) d := by
  unfold CU NH
  rw [hc, if_pos (.inl rfl)]
  unfold DY
  rw [hr]
  have h1 := Cd (b ++ Aw l) m 0 d
  have h2 := BS (b ++ Aw l) m 0 [58]
  rw [List.append_assoc, Nat.add_zero, List.length_append] at h1 h2
  simp only [if_true]
  rw [h1, h2, hm]
  simp
 unfold BB
 rw [G3 hbm (by simp [Aw]) (by rw [SM, hi]; rfl) (by unfold BV; rw [SM, hi]; rfl) ho]
 simp
def kn : TP -> TP
 | .tok k t _ => .tok k t 0
 | .bad e _ => .bad e 0
def SO : List TP -> Bool
 | [] => true
 | .tok _ _ _ :: r => SO r
 | .bad _ _ :: _ => false
theorem Po : ∀ {ps : List TP}, SO ps = true -> BI ps = none
 | [], _ => rfl
 | .tok _ _ _ :: r, h => Po (ps := r) h
 | .bad _ _ :: _, h => by cases h
theorem Ry : ∀ ps : List TP, SO (ps.map kn) = SO ps
 | [] => rfl
 | .tok _ _ _ :: r => Ry r
 | .bad _ _ :: _ => rfl
def QD : TP -> Pc
 | .tok k t _ => ⟨k, t⟩
 | .bad _ _ => ⟨0, []⟩
theorem MP : ∀ ps : List TP, SO ps = true -> AP ((ps.map Hm).map Kq) = (ps.map kn).map QD
 | [], _ => rfl
 | .tok k t p :: r, h => by
  have := MP r h
  unfold AP at this |-
  simp only [List.map_cons]
  rw [this]; rfl
 | .bad _ _ :: _, h => by cases h
theorem IE {l : List UInt8} {ps : List TP} (hv : validD l = true) (hp : (AH l).all Aq = true) (ht : AK l 0 0 = ps) (hk : SO ps = true) (hne : ps ≠ []) : B9 l = ((ps.map Hm).map Kq, 0) := by
 unfold B9 C0
 rw [if_pos hv, if_pos hp, ht, DL, Po hk]
 simp [hne]
theorem Ok : H5 [45, 32] := ⟨by decide, .inr rfl⟩
theorem Oh (l : List UInt8) : (B9 (45 :: 32 :: (91 :: l))).2 = (B9 (91 :: l)).2 /\ ((B9 (91 :: l)).2 = 0 -> ∃ r, (B9 (91 :: l)).1 = r /\ AP r ≠ [] /\ hk (AP r) = 8 /\ ∃ r', (B9 (45 :: 32 :: (91 :: l))).1 = ⟨5, [], 0⟩ :: r' /\ AP r' = AP r /\ r' ≠ []) := by
 obtain ⟨a, ha⟩ : ∃ a : List UInt8, 91 :: l = a := ⟨_, rfl⟩
 have hv : validD (45 :: 32 :: a) = validD a := by rw [validD_cons _ _ (by decide), validD_cons _ _ (by decide)]
 have hr : (AH (45 :: 32 :: a)).all Aq = (AH a).all Aq := by
  rw [(BX (c := 45) (by decide) (by decide) (by decide) _).2, (BX (c := 32) (by decide) (by decide) (by decide) _).2]
 rw [ha]
 unfold B9 C0
 rw [hv, hr]
 by_cases h1 : validD a = true
 ·rw [if_pos h1, if_pos h1]
  by_cases h2 : (AH a).all Aq = true
  ·rw [if_pos h2, if_pos h2]
   have h3 : AK (45 :: 32 :: a) 0 0 = .tok 5 [] 0 :: (AK a 0 0).map (O7 2) := by
    have e1 := IOq (b := []) (m := a) (by rw [List.nil_append, hv]; exact h1)
    have e2 := CJ (b := [45]) (m := a) (by show validD (45 :: 32 :: a) = true; rw [hv]; exact h1) 0
    have e3 := Fj Ok h1 (a.length + 1) 0 0
    rw [show ([] : List UInt8) ++ [45] = [45] from rfl, e2] at e1
    refine e1.trans ?_
    rw [Ck h1 (f := a.length + 1) 0 (by omega)]
    have e4 : BB ([45] ++ [32]) a 0 = BG ([45, 32] ++ a) (a.length + 1) (([45, 32] : List UInt8).length + 0) 0 := by
     show AK ([45, 32] ++ a) 2 0 = _
     rw [Ck (f := a.length + 1) (by show validD (45 :: 32 :: a) = true; rw [hv]; exact h1) 0 (by simp)]; rfl
    rw [e4, e3]; rfl
   have h4 : AK a 0 0 = .tok 8 [] 0 :: AK a 1 1 := by
    rw [<- ha]
    exact Vc (c := 0) (d := 0) l (by rw [ha]; exact h1)
   rw [h3, DL, DL]
   have hb : BI (TP.tok 5 [] 0 :: (AK a 0 0).map (O7 2)) = (BI (AK a 0 0)).map fun x => (x.1, 2 + x.2) := Ic 2 _
   rw [hb]
   cases hb2 : BI (AK a 0 0) with
   | some x =>
    obtain ⟨e, p⟩ := x
    have he := (IV h1 _ _ _ _ _ hb2).1
    simp only [Option.map_some]
    refine ⟨trivial, fun h0 => ?_⟩
    exfalso
    rcases he with rfl | rfl | rfl | rfl <;> simp at h0
   | none =>
    simp only [Option.map_none, List.nil_append]
    rw [h4] at hb2 |-
    refine ⟨by simp, fun _ => ⟨_, rfl, by simp [AP], by simp [AP, hk, Hm, Kq], ((TP.tok 8 [] 0 :: AK a 1 1).map (O7 2)).map (Kq ∘ Hm), by simp [Kq, Hm], ?_, by simp⟩⟩
    have : (TP.tok 8 [] 0 :: AK a 1 1).map (O7 2) = (TP.tok 8 [] 0 :: AK a 1 1).map (O7 2) := rfl
    unfold AP
    rw [List.map_map, List.map_map, List.map_map, List.map_map]
    refine List.map_congr_left fun x _ => ?_
    cases x <;> rfl
  ·rw [if_neg h2, if_neg h2]
   exact ⟨rfl, fun h => by simp at h⟩
 ·rw [if_neg h1, if_neg h1]
  exact ⟨rfl, fun h => by simp at h⟩
theorem MG {r : List AV} (h : hk (AP r) = 8) : Bp r = .plain := by
 cases r with
 | nil => cases h
 | cons t r =>
  have h : t.kind = 8 := h
  unfold Bp GT
  simp [h]
theorem Rp {no n e : Int} {r : List AV} (h : Bu no r 1 [] = .bad n e) : e ≠ 0 /\ n = no /\ Bu no r 2 [] = .bad no e := by
 have u1 : Bu no r 1 [] = if (AI (AP r)).2 ≠ 0 then .bad no (AI (AP r)).2 else if 24 < Ak (AI (AP r)).1 + 1 - 1 then .bad no 73 else .ok (AI (AP r)).1 [] := by
  unfold Bu; rw [if_neg (show ¬ 24 < 1 by decide)]
 have u2 : Bu no r 2 [] = if (AI (AP r)).2 ≠ 0 then .bad no (AI (AP r)).2 else if 24 < Ak (AI (AP r)).1 + 2 - 1 then .bad no 73 else .ok (AI (AP r)).1 [] := by
  unfold Bu; rw [if_neg (show ¬ 24 < 2 by decide)]
 rw [u1] at h
 rw [u2]
 clear u1 u2
 generalize (AI (AP r)).2 = e2 at h |-
 generalize Ak (AI (AP r)).1 = dd at h |-
 by_cases hw : e2 ≠ 0
 ·rw [if_pos hw] at h |-
  injection h with a b
  exact ⟨by rw [<- b]; exact hw, a.symm, by rw [b]⟩
 ·rw [if_neg hw] at h |-
  by_cases hd : 24 < dd + 1 - 1
  ·rw [if_pos hd] at h
   injection h with a b
   exact ⟨by rw [<- b]; decide, a.symm, by rw [if_pos (by omega), b]⟩
  ·rw [if_neg hd] at h; cases h
theorem OP {no n e : Int} {r : List AV} {d : Nat} {rest : List En} (h : Bu no r d rest = .bad n e) : n = no := by
 unfold Bu at h
 generalize (AI (AP r)).2 = e2 at h
 generalize (AI (AP r)).1 = t at h
 by_cases h1 : 24 < d
 ·rw [if_pos h1] at h; injection h with h; exact h.symm
 ·rw [if_neg h1] at h
  by_cases h2 : e2 ≠ 0
  ·rw [if_pos h2] at h; injection h with h; exact h.symm
  ·rw [if_neg h2] at h
   by_cases h3 : 24 < Ak t + d - 1
   ·rw [if_pos h3] at h; injection h with h; exact h.symm
   ·rw [if_neg h3] at h; cases h
theorem VM {F : Nat} (l : List UInt8) (no : Int) (hF : 8 <= F) :
  ((AL F [⟨no, 0, 91 :: l⟩]).2.2 = 0 /\ (AL F [⟨no, 0, 91 :: l⟩]).2.1 = 0 /\ ((AL F [⟨no, 0, 45 :: 32 :: (91 :: l)⟩] = (BA [(AL F [⟨no, 0, 91 :: l⟩]).1], 0, 0)) \/ ((AL F [⟨no, 0, 45 :: 32 :: (91 :: l)⟩]).2 = (no, 73)))) ∨
   (∃ e : Int, e ≠ 0 /\ (AL F [⟨no, 0, 91 :: l⟩]).2 = (no, e) /\ (AL F [⟨no, 0, 45 :: 32 :: (91 :: l)⟩]).2 = (no, e)) := by
 obtain ⟨F, rfl⟩ : ∃ G, F = G + 8 := ⟨F - 8, by omega⟩
 obtain ⟨h1, h2⟩ := Oh l
 have hB : ∀ s, Lq [⟨no, 0, s⟩] = if (B9 s).2 ≠ 0 then .bad no (B9 s).2 else .ok [⟨no, 0, (B9 s).1⟩] := fun s => by
  rw [Fn (by intro x hx; rw [List.mem_singleton.1 hx]; exact ⟨by show (0 : Int) <= 0; omega, by show (0 : Int) <= 8000; omega⟩), C7, C7]; rfl
 unfold AL
 rw [hB, hB, h1]
 by_cases h0 : (B9 (91 :: l)).2 ≠ 0
 ·rw [if_pos h0, if_pos h0]
  exact .inr ⟨_, h0, rfl, rfl⟩
 ·rw [if_neg h0, if_neg h0]
  obtain ⟨r, hr, hne, hk8, r', hr', hpc, hne'⟩ := h2 (Decidable.not_not.1 h0)
  rw [hr, hr']
  simp only
  have w1 : B2 (F + 8) [⟨no, 0, r⟩] = D3 (Bu no r 1 []) := by
   unfold B2
   rw [if_neg (by simp), A8]
   simp only
   rw [if_neg (by decide), MG hk8]
  have hb5 : Bp (⟨5, [], 0⟩ :: r' : List AV) = .dash := by unfold Bp GT; simp
  have hb8 : Bp r' = .plain := MG (by rw [hpc]; exact hk8)
  have hv : ∀ dd, Bu no r' dd [] = Bu no r dd [] := fun dd => by unfold Bu; rw [hpc]
  have hlen : ¬ ((⟨5, [], 0⟩ :: r' : List AV).length = 1) := by
   cases r' with
   | nil => exact absurd rfl hne'
   | cons a b => simp
  have w2 : B2 (F + 8) [⟨no, 0, ⟨5, [], 0⟩ :: r'⟩] = D3 ((Bu no r 2 []).bind fun t rest => Bn (F + 6) 0 1 rest [t]) := by
   unfold B2
   rw [if_neg (by simp), A8]
   simp only
   rw [if_neg (by decide), hb5]
   simp only
   rw [Bn]
   simp only
   rw [if_pos ⟨trivial, hb5⟩, AQ]
   (try simp only)
   rw [if_neg hlen, A8]
   (try simp only)
   rw [if_neg (by decide), show (Ca ⟨no, 0, ⟨5, [], 0⟩ :: r'⟩).l = r' from rfl, hb8]
   simp only
   rw [show (Ca ⟨no, 0, ⟨5, [], 0⟩ :: r'⟩).no = no from rfl, hv]
   rfl
  rw [w1, w2]
  have hD := Ob no r 1 []
  cases hv1 : Bu no r 1 [] with
  | out => exact absurd hv1 IA
  | ok t rest =>
   rw [hv1] at hD
   have hrest := (FD hv1).1
   subst hrest
   obtain ⟨_, ⟨_, h4⟩ | ⟨_, n', h4⟩⟩ := hD
   ·rw [show (1 : Nat) + 1 = 2 from rfl] at h4
    rw [h4]
    simp only [BR.bind]
    rw [Bn]
    exact .inl ⟨rfl, rfl, .inl rfl⟩
   ·rw [show (1 : Nat) + 1 = 2 from rfl] at h4
    rw [h4]
    refine .inl ⟨rfl, rfl, .inr ?_⟩
    have := OP h4
    rw [this]; rfl
  | bad n e =>
   have hne1 := Rp hv1
   obtain ⟨h4, rfl, h5⟩ := hne1
   rw [h5]
   exact .inr ⟨e, h4, rfl, rfl⟩
end
end Go.Proofs.YtaogfdffgdglkaaGreatDoor
