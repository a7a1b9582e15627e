/- What is proved: a part of the walk of the program and of its plain laws; no condition beside those that each theorem names. -/
import Derived.Test.YtaogfdffgdglkaaGreatDoorVa
import Derived.Test.YtaogfdffgdglkaaGreatDoorYa
namespace Go.Proofs.YtaogfdffgdglkaaGreatDoor
open Go Go.RowKit Go.Lib
set_option linter.unusedSimpArgs false
set_option linter.unusedVariables false
section
def AC (l : List UInt8) : Prop := validD l = true /\ (AH l).all Aq = true
theorem AC.cons {c : UInt8} (hc : c.toNat < 128) (h1 : 32 <= c.toNat) (h2 : c.toNat ≠ 127) {m : List UInt8} (h : AC m) : AC (c :: m) := by
 have := BX hc h1 h2 m
 exact ⟨this.1.trans h.1, this.2.trans h.2⟩
theorem AC.quote {l m : List UInt8} (hv : validD l = true) (h : AC m) : AC (Aw l ++ m) := by
 have := Ns hv m
 exact ⟨this.1.trans h.1, this.2.trans h.2⟩
theorem AC.nil : AC [] := ⟨rfl, rfl⟩
def DS (l : List UInt8) : Tr := EO ⟨3, 0, ⟨l.toArray⟩⟩
def Hp (l : List UInt8) : Pc := ⟨2, l⟩
theorem GA {l : List UInt8} (hv : validD l = true) : B3 (Hp l) = (⟨3, 0, ⟨l.toArray⟩⟩, 0) := by
 unfold B3 Hp
 rw [if_neg (show ¬ (2 : Int) = 1 by decide), if_pos rfl, if_pos hv]
theorem Og {l : List UInt8} (hv : validD l = true) : PV [Hp l] (DS l) := by
 have := PV.key (Hp l) (by rw [GA hv])
 rw [GA hv] at this
 exact this
theorem JS {l : List UInt8} (hv : validD l = true) : AI [Hp l] = (DS l, 0) := by
 rw [MR (Og hv), if_pos (by unfold DS; rw [Eq]; decide)]
def Mm (q : List UInt8) : List UInt8 := 45 :: 32 :: q
theorem N9 {l : List UInt8} (hv : validD l = true) : B9 (Mm (Aw l)) = ([⟨5, [], 0⟩, ⟨2, l, 2⟩], 0) := by
 have hr : AC (Mm (Aw l)) := by
  have := AC.quote hv AC.nil
  rw [List.append_nil] at this
  exact AC.cons (by decide) (by decide) (by decide) (AC.cons (by decide) (by decide) (by decide) this)
 have e1 := IOq (b := []) (m := Aw l) (by exact hr.1)
 have e2 := CJ (b := [45]) (m := Aw l) (by exact hr.1) 0
 have e3 := CH hv ([45] ++ [32]) [] 0 (by rw [List.append_nil]; exact hr.1) (by unfold AF C2; simp)
 rw [List.append_nil, FH] at e3
 refine IE hr.1 hr.2 (ps := [.tok 5 [] 0, .tok 2 l 2]) ?_ rfl (by simp)
 rw [show AK (Mm (Aw l)) 0 0 = BB [] (45 :: 32 :: Aw l) 0 from rfl, e1, show ([] : List UInt8) ++ [45] = [45] from rfl, e2, e3]
 rfl
def N1 (k v : List UInt8) : List UInt8 := Aw k ++ 58 :: 32 :: Aw v
theorem Ou {k v : List UInt8} (hk : validD k = true) (hv : validD v = true) : B9 (N1 k v) = ([⟨2, k, 0⟩, ⟨6, [], (Aw k).length⟩, ⟨2, v, (Aw k).length + 2⟩], 0) := by
 have hr0 := AC.quote hv AC.nil
 rw [List.append_nil] at hr0
 have hr : AC (N1 k v) := AC.quote hk (AC.cons (by decide) (by decide) (by decide) (AC.cons (by decide) (by decide) (by decide) hr0))
 have e1 := CH hk [] (58 :: 32 :: Aw v) 0 (by exact hr.1) (by simp [Ew, Bm])
 have e2 := Hz (b := Aw k) (m := Aw v) (by exact hr.1) 0
 have e3 := CJ (b := Aw k ++ [58]) (m := Aw v) (by rw [List.append_assoc]; exact hr.1) 0
 have e4 := CH hv (Aw k ++ [58] ++ [32]) [] 0 (by rw [List.append_nil, List.append_assoc, List.append_assoc]; exact hr.1) (by unfold AF C2; simp)
 rw [List.append_nil, FH] at e4
 refine IE hr.1 hr.2 (ps := [.tok 2 k 0, .tok 6 [] (Aw k).length, .tok 2 v ((Aw k).length + 2)]) ?_ rfl (by simp)
 rw [show AK (N1 k v) 0 0 = BB [] (Aw k ++ 58 :: 32 :: Aw v) 0 from rfl, e1, show ([] : List UInt8) ++ Aw k = Aw k from rfl, e2, e3, e4]
 simp
def Ur (i : Nat) (l : List UInt8) : Hi := ⟨(i : Int) + 1, 0, Mm (Aw l)⟩
def H9 (i : Nat) (l : List UInt8) : En := ⟨(i : Int) + 1, 0, [⟨5, [], 0⟩, ⟨2, l, 2⟩]⟩
def Nf : Nat -> List (List UInt8) -> List Hi
 | _, [] => []
 | i, l :: r => Ur i l :: Nf (i + 1) r
def Hu : Nat -> List (List UInt8) -> List En
 | _, [] => []
 | i, l :: r => H9 i l :: Hu (i + 1) r
theorem K3 : ∀ (i : Nat) (ls : List (List UInt8)), (∀ l ∈ ls, validD l = true) -> C7 (Nf i ls) = .ok (Hu i ls)
 | _, [], _ => rfl
 | i, l :: r, h => by
  rw [Nf, C7, show (Ur i l).s = Mm (Aw l) from rfl, N9 (h l List.mem_cons_self)]
  simp only
  rw [if_neg (by decide), K3 (i + 1) r (fun x hx => h x (List.mem_cons_of_mem _ hx))]
  rfl
theorem K2 : ∀ (ls : List (List UInt8)) (i F : Nat) (acc : List Tr), (∀ l ∈ ls, validD l = true) -> ls.length + 4 <= F -> Bn F 0 1 (Hu i ls) acc = .ok (BA (acc ++ ls.map DS)) []
 | [], i, F, acc, _, hF => by
  obtain ⟨F, rfl⟩ : ∃ G, F = G + 1 := ⟨F - 1, by omega⟩
  rw [Hu, Bn, List.map_nil, List.append_nil]
 | l :: r, i, F, acc, h, hF => by
  obtain ⟨F, rfl⟩ : ∃ G, F = G + 3 := ⟨F - 3, by simp at hF; omega⟩
  have hb : Bp (H9 i l).l = .dash := by unfold Bp GT H9; simp
  have hp : Bp ([⟨2, l, 2⟩] : List AV) = .plain := by unfold Bp GT; simp [EK]
  rw [Hu, Bn]
  (try simp only)
  rw [if_pos ⟨rfl, hb⟩, AQ, if_neg (by unfold H9; simp), A8]
  (try simp only)
  rw [if_neg (by decide), show (Ca (H9 i l)).l = [⟨2, l, 2⟩] from rfl, hp]
  simp only
  have hv : ∀ no r, Bu no [⟨2, l, 2⟩] 2 r = .ok (DS l) r := fun no r => by
   unfold Bu
   rw [show AP ([⟨2, l, 2⟩] : List AV) = [Hp l] from rfl, JS (h l List.mem_cons_self), if_neg (by decide), if_neg (by simp), if_neg (by simp only; unfold DS; rw [Eq]; decide)]
  rw [show (1 : Nat) + 1 = 2 from rfl, hv]
  simp only [BR.bind]
  rw [K2 r (i + 1) (F + 2) _ (fun x hx => h x (List.mem_cons_of_mem _ hx)) (by simp at hF; omega)]
  simp
theorem Uv (ls : List (List UInt8)) (F : Nat) (h : ∀ l ∈ ls, validD l = true) (hF : ls.length + 6 <= F) :
  AL F (Nf 0 ls) = if ls = [] then (CL, 0, 0) else (BA (ls.map DS), 0, 0) := by
 have hin : ∀ (i : Nat) (ls : List (List UInt8)), ∀ x ∈ Nf i ls, 0 <= x.ind /\ x.ind <= 8000 := fun i ls => by
  induction ls generalizing i with
  | nil => intro x hx; cases hx
  | cons l r ih =>
   intro x hx
   rcases List.mem_cons.1 hx with rfl | hx
   ·exact ⟨by show (0 : Int) <= 0; omega, by show (0 : Int) <= 8000; omega⟩
   ·exact ih _ x hx
 unfold AL
 rw [Fn (hin 0 ls), K3 0 ls h]
 simp only
 unfold B2
 cases ls with
 | nil => rfl
 | cons l r =>
  obtain ⟨F, rfl⟩ : ∃ G, F = G + 1 := ⟨F - 1, by omega⟩
  have hb : Bp (H9 0 l).l = .dash := by unfold Bp GT H9; simp
  rw [if_neg (by simp [Hu]), if_neg (by simp), Hu, A8]
  (try simp only)
  rw [if_neg (by decide), hb]
  simp only
  have := K2 (l :: r) 0 F [] h (by omega)
  rw [Hu, List.nil_append] at this
  rw [show (H9 0 l).col = 0 from rfl, this]
  rfl
def Up (i : Nat) (k v : List UInt8) : Hi := ⟨(i : Int) + 1, 0, N1 k v⟩
def Ex (i : Nat) (k v : List UInt8) : En := ⟨(i : Int) + 1, 0, [⟨2, k, 0⟩, ⟨6, [], (Aw k).length⟩, ⟨2, v, (Aw k).length + 2⟩]⟩
def Ms : Nat -> List (List UInt8 × List UInt8) -> List Hi
 | _, [] => []
 | i, x :: r => Up i x.1 x.2 :: Ms (i + 2) r
def Fl : Nat -> List (List UInt8 × List UInt8) -> List En
 | _, [] => []
 | i, x :: r => Ex i x.1 x.2 :: Fl (i + 2) r
def PX (l : List UInt8) : Sc := ⟨3, 0, ⟨l.toArray⟩⟩
theorem K8 : ∀ (i : Nat) (ls : List (List UInt8 × List UInt8)), (∀ x ∈ ls, validD x.1 = true /\ validD x.2 = true) -> C7 (Ms i ls) = .ok (Fl i ls)
 | _, [], _ => rfl
 | i, x :: r, h => by
  have hx := h x List.mem_cons_self
  rw [Ms, C7, show (Up i x.1 x.2).s = N1 x.1 x.2 from rfl, Ou hx.1 hx.2]
  simp only
  rw [if_neg (by decide), K8 (i + 2) r (fun y hy => h y (List.mem_cons_of_mem _ hy))]
  rfl
theorem Ja : ∀ (ls : List (List UInt8 × List UInt8)) (i F : Nat) (ks : List Sc) (ts : List Tr), (∀ x ∈ ls, validD x.1 = true /\ validD x.2 = true) -> ls.length + 4 <= F →
  AD F 0 1 (Fl i ls) ks ts = .ok (BJ (ks ++ ls.map (fun x => PX x.1)) (ts ++ ls.map (fun x => DS x.2))) []
 | [], i, F, ks, ts, _, hF => by
  obtain ⟨F, rfl⟩ : ∃ G, F = G + 1 := ⟨F - 1, by omega⟩
  rw [Fl, AD, List.map_nil, List.map_nil, List.append_nil, List.append_nil]
 | x :: r, i, F, ks, ts, h, hF => by
  obtain ⟨F, rfl⟩ : ∃ G, F = G + 3 := ⟨F - 3, by simp at hF; omega⟩
  obtain ⟨k, v⟩ := x
  have hx := h (k, v) List.mem_cons_self
  dsimp only at hx
  have hb : Bp (Ex i k v).l = .key := by unfold Bp GT Ex; simp
  have hp : ∀ a, Bp ([⟨2, v, a⟩] : List AV) = .plain := fun a => by unfold Bp GT; simp [EK]
  have hkb : Co (Ex i k v).l = (PX k, 0) := by
   have := GA hx.1
   unfold Hp at this
   exact this
  rw [Fl, AD]
  (try simp only)
  rw [if_pos ⟨rfl, hb⟩, hkb]
  simp only
  rw [if_neg (by decide), Bl, show (Ex i k v).l.drop 2 = [⟨2, v, (Aw k).length + 2⟩] from rfl, hp]
  simp only
  rw [if_neg (by unfold Ex; simp)]
  have hv : ∀ no r a, Bu no [⟨2, v, a⟩] 2 r = .ok (DS v) r := fun no r a => by
   unfold Bu
   rw [show AP ([⟨2, v, a⟩] : List AV) = [Hp v] from rfl, JS hx.2, if_neg (by decide), if_neg (by simp), if_neg (by simp only; unfold DS; rw [Eq]; decide)]
  rw [show (1 : Nat) + 1 = 2 from rfl, hv]
  simp only [BR.bind]
  rw [Ja r (i + 2) (F + 2) _ _ (fun y hy => h y (List.mem_cons_of_mem _ hy)) (by simp at hF; omega)]
  simp
theorem UK (ls : List (List UInt8 × List UInt8)) (F : Nat) (h : ∀ x ∈ ls, validD x.1 = true /\ validD x.2 = true) (hF : ls.length + 6 <= F) :
  AL F (Ms 0 ls) = if ls = [] then (CL, 0, 0) else (BJ (ls.map (fun x => PX x.1)) (ls.map (fun x => DS x.2)), 0, 0) := by
 have hin : ∀ (i : Nat) (ls : List (List UInt8 × List UInt8)), ∀ x ∈ Ms i ls, 0 <= x.ind /\ x.ind <= 8000 := fun i ls => by
  induction ls generalizing i with
  | nil => intro x hx; cases hx
  | cons l r ih =>
   intro x hx
   rcases List.mem_cons.1 hx with rfl | hx
   ·exact ⟨by show (0 : Int) <= 0; omega, by show (0 : Int) <= 8000; omega⟩
   ·exact ih _ x hx
 unfold AL
 rw [Fn (hin 0 ls), K8 0 ls h]
 simp only
 unfold B2
 cases ls with
 | nil => rfl
 | cons l r =>
  obtain ⟨F, rfl⟩ : ∃ G, F = G + 1 := ⟨F - 1, by omega⟩
  have hb : Bp (Ex 0 l.1 l.2).l = .key := by unfold Bp GT Ex; simp
  rw [if_neg (by simp [Fl]), if_neg (by simp), Fl, A8]
  (try simp only)
  rw [if_neg (by decide), hb]
  simp only
  have := Ja (l :: r) 0 F [] [] h (by omega)
  rw [Fl, List.nil_append, List.nil_append] at this
  rw [show (Ex 0 l.1 l.2).col = 0 from rfl, this]
  rfl
def Gw : List (List UInt8) -> List UInt8
 | [] => [93]
 | l :: r => Aw l ++ 44 :: 32 :: Gw r
def G1 : List (List UInt8 × List UInt8) -> List UInt8
 | [] => [125]
 | x :: r => Aw x.1 ++ 58 :: 32 :: (Aw x.2 ++ 44 :: 32 :: G1 r)
theorem Ig : ∀ ls : List (List UInt8), (∀ l ∈ ls, validD l = true) -> AC (Gw ls)
 | [], _ => AC.cons (by decide) (by decide) (by decide) AC.nil
 | l :: r, h => AC.quote (h l List.mem_cons_self) (AC.cons (by decide) (by decide) (by decide) (AC.cons (by decide) (by decide) (by decide) (Ig r (fun x hx => h x (List.mem_cons_of_mem _ hx)))))
theorem H7 : ∀ ls : List (List UInt8 × List UInt8), (∀ x ∈ ls, validD x.1 = true /\ validD x.2 = true) -> AC (G1 ls)
 | [], _ => AC.cons (by decide) (by decide) (by decide) AC.nil
 | x :: r, h => AC.quote (h x List.mem_cons_self).1 (AC.cons (by decide) (by decide) (by decide) (AC.cons (by decide) (by decide) (by decide) (AC.quote (h x List.mem_cons_self).2 (AC.cons (by decide) (by decide) (by decide) (AC.cons (by decide) (by decide) (by decide) (H7 r (fun y hy => h y (List.mem_cons_of_mem _ hy))))))))
def VN : List (List UInt8) -> List TP
 | [] => [.tok 9 [] 0]
 | l :: r => .tok 2 l 0 :: .tok 7 [] 0 :: VN r
def VS : List (List UInt8 × List UInt8) -> List TP
 | [] => [.tok 11 [] 0]
 | x :: r => .tok 2 x.1 0 :: .tok 6 [] 0 :: .tok 2 x.2 0 :: .tok 7 [] 0 :: VS r
theorem JP (m : List UInt8) : (AF (44 :: m) 0 1 || C3 (44 :: m) 0 [58]) = true := by
 unfold AF; rw [Ew]; simp [CN, Bm]
theorem IC : ∀ (ls : List (List UInt8)) (b : List UInt8), (∀ l ∈ ls, validD l = true) -> validD (b ++ Gw ls) = true -> (BB b (Gw ls) 1).map kn = VN ls
 | [], b, _, hv => by
  rw [Gw] at hv |-
  rw [GP 93 (.inr (.inl rfl)) hv, FH]; rfl
 | l :: r, b, h, hv => by
  rw [Gw] at hv |-
  rw [CH (h l List.mem_cons_self) b _ 1 hv (JP _), GP 44 (.inl rfl) (by rw [List.append_assoc]; exact hv), if_pos rfl, if_pos rfl,
   CJ (by rw [List.append_assoc, List.append_assoc]; exact hv), List.map_cons, List.map_cons, IC r _ (fun x hx => h x (List.mem_cons_of_mem _ hx)) (by rw [List.append_assoc, List.append_assoc, List.append_assoc]; exact hv)]
  rfl
theorem Je : ∀ (ls : List (List UInt8 × List UInt8)) (b : List UInt8), (∀ x ∈ ls, validD x.1 = true /\ validD x.2 = true) -> validD (b ++ G1 ls) = true -> (BB b (G1 ls) 1).map kn = VS ls
 | [], b, _, hv => by
  rw [G1] at hv |-
  rw [GP 125 (.inr (.inr rfl)) hv, FH]; rfl
 | x :: r, b, h, hv => by
  rw [G1] at hv |-
  have hx := h x List.mem_cons_self
  rw [CH hx.1 b _ 1 hv (by rw [Ew]; simp [Bm]), Hz (by rw [List.append_assoc]; exact hv), CJ (by rw [List.append_assoc, List.append_assoc]; exact hv),
   CH hx.2 _ _ 1 (by rw [List.append_assoc, List.append_assoc, List.append_assoc]; exact hv) (JP _), GP 44 (.inl rfl) (by rw [List.append_assoc, List.append_assoc, List.append_assoc, List.append_assoc]; exact hv), if_pos rfl, if_pos rfl,
   CJ (by rw [List.append_assoc, List.append_assoc, List.append_assoc, List.append_assoc, List.append_assoc]; exact hv), List.map_cons, List.map_cons, List.map_cons, List.map_cons,
   Je r _ (fun y hy => h y (List.mem_cons_of_mem _ hy)) (by rw [List.append_assoc, List.append_assoc, List.append_assoc, List.append_assoc, List.append_assoc, List.append_assoc]; exact hv)]
  rfl
theorem Uh : ∀ ls, SO (VN ls) = true
 | [] => rfl
 | _ :: r => Uh r
theorem Ut : ∀ ls, SO (VS ls) = true
 | [] => rfl
 | _ :: r => Ut r
theorem VH : ∀ ls : List (List UInt8), (∀ l ∈ ls, validD l = true) -> PI ((VN ls).map QD) (ls.map DS)
 | [], _ => PI.nil _ rfl
 | l :: r, h => PI.cons [Hp l] (DS l) ⟨7, []⟩ _ _ (Og (h l List.mem_cons_self)) rfl (VH r (fun x hx => h x (List.mem_cons_of_mem _ hx)))
theorem VB : ∀ ls : List (List UInt8 × List UInt8), (∀ x ∈ ls, validD x.1 = true /\ validD x.2 = true) -> PD ((VS ls).map QD) (ls.map (fun x => PX x.1)) (ls.map (fun x => DS x.2))
 | [], _ => PD.nil _ rfl
 | x :: r, h => by
  have hx := h x List.mem_cons_self
  have hp := PP.some (Hp x.1) ⟨6, []⟩ [Hp x.2] (DS x.2) (by rw [GA hx.1]) rfl (Og hx.2)
  rw [GA hx.1] at hp
  exact PD.cons [Hp x.1, ⟨6, []⟩, Hp x.2] (PX x.1) (DS x.2) ⟨7, []⟩ _ _ _ hp rfl (VB r (fun y hy => h y (List.mem_cons_of_mem _ hy)))
theorem Hg : ∀ ls : List (List UInt8), Ak.deepTs (ls.map DS) <= 1
 | [] => by rw [List.map_nil, AY]; omega
 | l :: r => by have := Hg r; rw [List.map_cons, AM]; unfold DS at this |-; rw [Eq]; omega
theorem K9 {F : Nat} (c : UInt8) (m : List UInt8) (no : Int) {ps : List TP} {t : Tr} (hc : c = 91 \/ c = 123) (hF : 1 <= F) (hr : AC (c :: m)) (hp : (BB [c] m 1).map kn = ps) (hok : SO ps = true) (hPV : PV ((⟨if c = 91 then 8 else 10, []⟩ : Pc) :: ps.map QD) t) (hd : Ak t <= 24) : AL F [⟨no, 0, c :: m⟩] = (t, 0, 0) := by
 obtain ⟨F, rfl⟩ : ∃ G, F = G + 1 := ⟨F - 1, by omega⟩
 have e1 := Od (b := []) (m := m) c hc (by exact hr.1) 0
 have hok2 : SO (BB ([] ++ [c]) m (0 + 1)) = true := by rw [<- Ry]; rw [show (BB ([] ++ [c]) m (0 + 1)).map kn = ps from hp]; exact hok
 have h1 := IE (l := c :: m) hr.1 hr.2 (ps := _) e1 (by exact hok2) (by simp)
 have hpcs : AP (((TP.tok (if c = 91 then 8 else 10) [] (List.length ([] : List UInt8)) :: BB ([] ++ [c]) m (0 + 1)).map Hm).map Kq) = (⟨if c = 91 then 8 else 10, []⟩ : Pc) :: ps.map QD := by
  rw [MP _ (by exact hok2), List.map_cons, List.map_cons, show (BB ([] ++ [c]) m (0 + 1)).map kn = ps from hp]
  simp only [kn, QD]
  rcases hc with rfl | rfl <;> rfl
 unfold AL
 rw [Fn (by intro x hx; rw [List.mem_singleton.1 hx]; exact ⟨by show (0 : Int) <= 0; omega, by show (0 : Int) <= 8000; omega⟩), C7, C7]
 simp only
 rw [h1]
 simp only
 rw [if_neg (by decide)]
 show B2 (F + 1) [_] = _
 unfold B2
 rw [if_neg (by simp), A8]
 simp only
 rw [if_neg (by decide)]
 obtain ⟨tk, htk⟩ : ∃ tk, ((TP.tok (if c = 91 then 8 else 10) [] (List.length ([] : List UInt8)) :: BB ([] ++ [c]) m (0 + 1)).map Hm).map Kq = tk := ⟨_, rfl⟩
 rw [htk] at hpcs |-
 have hb : Bp tk = .plain := by
  cases tk with
  | nil => rw [show AP ([] : List AV) = [] from rfl] at hpcs; cases hpcs
  | cons a r =>
   have h2 : (⟨a.kind, a.str⟩ : Pc) = ⟨if c = 91 then 8 else 10, []⟩ := by unfold AP at hpcs; injection hpcs
   injection h2 with h2 _
   unfold Bp GT
   rcases hc with rfl | rfl <;> simp at h2 <;> simp [h2]
 rw [hb]
 simp only
 unfold Bu
 rw [hpcs, MR hPV, if_pos hd, if_neg (by decide), if_neg (by simp), if_neg (by simp only; omega)]
 rfl
theorem UV (ls : List (List UInt8)) (F : Nat) (no : Int) (h : ∀ l ∈ ls, validD l = true) (hF : 1 <= F) : AL F [⟨no, 0, 91 :: Gw ls⟩] = (BA (ls.map DS), 0, 0) := by
 have hr : AC (91 :: Gw ls) := AC.cons (by decide) (by decide) (by decide) (Ig ls h)
 exact K9 91 (Gw ls) no (.inl rfl) hF hr (IC ls [91] h hr.1) (Uh ls) (PV.lst _ _ _ rfl (VH ls h)) (by rw [G4]; have := Hg ls; omega)
theorem UW (ls : List (List UInt8 × List UInt8)) (F : Nat) (no : Int) (h : ∀ x ∈ ls, validD x.1 = true /\ validD x.2 = true) (hF : 1 <= F) : AL F [⟨no, 0, 123 :: G1 ls⟩] = (BJ (ls.map (fun x => PX x.1)) (ls.map (fun x => DS x.2)), 0, 0) := by
 have hr : AC (123 :: G1 ls) := AC.cons (by decide) (by decide) (by decide) (H7 ls h)
 exact K9 123 (G1 ls) no (.inr rfl) hF hr (Je ls [123] h hr.1) (Ut ls) (PV.dic _ _ _ _ rfl (VB ls h)) (by rw [GD]; have := Hg (ls.map (fun x => x.2)); rw [List.map_map] at this; have e : (DS ∘ fun x : List UInt8 × List UInt8 => x.2) = fun x => DS x.2 := rfl; rw [e] at this; omega)
end
section
theorem MK : ∀ {l : List Hi} {es : List En}, C7 l = .ok es -> Dw es <= (l.map fun x => x.s.length + 1).sum
 | [], es, h => by
  rw [C7] at h; injection h with h; subst h
  exact Nat.le_refl _
 | x :: r, es, h => by
  rw [C7] at h
  split at h
  ·cases h
  ·cases hr : C7 r with
   | bad no e => rw [hr] at h; cases h
   | ok es' =>
    rw [hr] at h
    injection h with h
    subst h
    have g2 := MK hr
    rw [AA, List.map_cons, List.sum_cons]
    have := (EG x.s).1
    have e : ((B9 x.s).1).length = (C0 x.s).1.length := List.length_map _
    show ((B9 x.s).1).length + 1 + Dw es' <= _
    omega
theorem S9 (c : Nat) : ∀ l : List Sc, (∀ x ∈ l, x.str.size <= c) -> ((l.map B7).map fun x => x.s.length + 1).sum <= (c + 1) * l.length
 | [], _ => Nat.zero_le _
 | x :: r, h => by
  have h1 := S9 c r (fun y hy => h y (List.mem_cons_of_mem _ hy))
  have h2 := h x List.mem_cons_self
  have h3 : (B7 x).s.length = x.str.size := by show x.str.data.toList.length = _; rw [<- Lib.size_eq]
  rw [List.map_cons, List.map_cons, List.sum_cons, List.length_cons, h3, Nat.mul_add, Nat.mul_one]
  omega
theorem VO {ys : List Sc} {n : Nat} (hl : ys.length <= n) (hs : ∀ x ∈ ys, x.str.size <= 400) : ∀ es, C7 (ys.map B7) = .ok es -> 4 * Dw es + 2 <= 1604 * n + 2 := fun es he => by
 have h1 := MK he
 have h2 := S9 400 ys hs
 have h3 : (400 + 1) * ys.length <= (400 + 1) * n := Nat.mul_le_mul_left _ hl
 omega
theorem We {w : World} {b : Nat} {k n : Int} {s : ByteArray} {ty : TypeId} (h : w.heap[b]? = some (.cells #[.int .i64 k, .int .i64 n, .string s] ty)) : Cy w (.slice (some ⟨b, 0, none⟩) 1 1) [⟨k, n, s⟩] := by
 refine ⟨some ⟨b, 0, none⟩, 1, rfl, fun j hj => ⟨b, 0, rfl, (Gl h), ?_⟩⟩
 have : j = 0 := by simp at hj; omega
 subst this
 simp [World.cell?, h]
theorem VF (k n : Int) (s : ByteArray) : [Sc.mk k n s].map B7 = [⟨k, n, s.data.toList⟩] := rfl
theorem IN (M : Nat) : ∀ ts : List Tr, Sm.SmTs M ts ↔ ∀ t ∈ ts, Sm M t
 | [] => by simp [Sm.SmTs]
 | t :: r => by rw [Sm.SmTs, IN M r]; simp
theorem R6 {M : Nat} {ts : List Tr} (hl : ts.length <= M) (h : ∀ t ∈ ts, Sm M t) : Sm M (BA ts) := by
 unfold BA
 rw [Sm]
 exact ⟨Nat.zero_le _, hl, (IN M ts).2 h⟩
theorem Sw {M : Nat} {ks : List Sc} {ts : List Tr} (hk : ks.length <= M) (hl : ts.length <= M) (h : ∀ t ∈ ts, Sm M t) : Sm M (BJ ks ts) := by
 unfold BJ
 rw [Sm]
 exact ⟨hk, hl, (IN M ts).2 h⟩
end
end Go.Proofs.YtaogfdffgdglkaaGreatDoor
