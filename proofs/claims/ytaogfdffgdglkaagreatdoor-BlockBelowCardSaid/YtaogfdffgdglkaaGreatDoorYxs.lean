/- What is proved: a part of the walk of the program and of its plain laws; no condition beside those that each theorem names. -/
import Derived.Test.YtaogfdffgdglkaaGreatDoorYxr
import Derived.Test.YtaogfdffgdglkaaGreatDoorYxq
import Derived.Test.YtaogfdffgdglkaaGreatDoorYa
namespace Go.Proofs.YtaogfdffgdglkaaGreatDoor
open Go Go.RowKit Go.Lib
set_option linter.unusedSimpArgs false
set_option linter.unusedVariables false
section
def AC (l : List UInt8) : Prop := validD l = true /\ (AH l).all Aq = true
theorem AC.cons {c : UInt8} (hc : c.toNat < 128) (h1 : 32 <= c.toNat) (h2 : c.toNat ≠ 127) {m : List UInt8} (h : AC m) : AC (c :: m) := by
 have := BX hc h1 h2 m
 exact ⟨this.1.trans h.1, this.2.trans h.2⟩
theorem AC.quote {l m : List UInt8} (hv : validD l = true) (h : AC m) : AC (Aw l ++ m) := by
 have := Ns hv m
 exact ⟨this.1.trans h.1, this.2.trans h.2⟩
theorem AC.nil : AC [] := ⟨rfl, rfl⟩
def DS (l : List UInt8) : Tr := EO ⟨3, 0, ⟨l.toArray⟩⟩
def Hp (l : List UInt8) : Pc := ⟨2, l⟩
theorem GA {l : List UInt8} (hv : validD l = true) : B3 (Hp l) = (⟨3, 0, ⟨l.toArray⟩⟩, 0) := by
 unfold B3 Hp
 rw [if_neg (show ¬ (2 : Int) = 1 by decide), if_pos rfl, if_pos hv]
theorem Og {l : List UInt8} (hv : validD l = true) : PV [Hp l] (DS l) := by
 have := PV.key (Hp l) (by rw [GA hv])
 rw [GA hv] at this
 exact this
theorem JS {l : List UInt8} (hv : validD l = true) : AI [Hp l] = (DS l, 0) := by
 rw [MR (Og hv), if_pos (by unfold DS; rw [Eq]; decide)]
def Mm (q : List UInt8) : List UInt8 := 45 :: 32 :: q
theorem N9 {l : List UInt8} (hv : validD l = true) : B9 (Mm (Aw l)) = ([⟨5, [], 0⟩, ⟨2, l, 2⟩], 0) := by
 have hr : AC (Mm (Aw l)) := by
  have := AC.quote hv AC.nil
  rw [List.append_nil] at this
  exact AC.cons (by decide) (by decide) (by decide) (AC.cons (by decide) (by decide) (by decide) this)
 have e1 := IOq (b := []) (m := Aw l) (by exact hr.1)
 have e2 := CJ (b := [45]) (m := Aw l) (by exact hr.1) 0
 have e3 := CH hv ([45] ++ [32]) [] 0 (by rw [List.append_nil]; exact hr.1) (by unfold AF C2; simp)
 rw [List.append_nil, FH] at e3
 refine IE hr.1 hr.2 (ps := [.tok 5 [] 0, .tok 2 l 2]) ?_ rfl (by simp)
 rw [show AK (Mm (Aw l)) 0 0 = BB [] (45 :: 32 :: Aw l) 0 from rfl, e1, show ([] : List UInt8) ++ [45] = [45] from rfl, e2, e3]
 rfl
def N1 (k v : List UInt8) : List UInt8 := Aw k ++ 58 :: 32 :: Aw v
theorem Ou {k v : List UInt8} (hk : validD k = true) (hv : validD v = true) : B9 (N1 k v) = ([⟨2, k, 0⟩, ⟨6, [], (Aw k).length⟩, ⟨2, v, (Aw k).length + 2⟩], 0) := by
 have hr0 := AC.quote hv AC.nil
 rw [List.append_nil] at hr0
 have hr : AC (N1 k v) := AC.quote hk (AC.cons (by decide) (by decide) (by decide) (AC.cons (by decide) (by decide) (by decide) hr0))
 have e1 := CH hk [] (58 :: 32 :: Aw v) 0 (by exact hr.1) (by simp [Ew, Bm])
 have e2 := Hz (b := Aw k) (m := Aw v) (by exact hr.1) 0
 have e3 := CJ (b := Aw k ++ [58]) (m := Aw v) (by rw [List.append_assoc]; exact hr.1) 0
 have e4 := CH hv (Aw k ++ [58] ++ [32]) [] 0 (by rw [List.append_nil, List.append_assoc, List.append_assoc]; exact hr.1) (by unfold AF C2; simp)
 rw [List.append_nil, FH] at e4
 refine IE hr.1 hr.2 (ps := [.tok 2 k 0, .tok 6 [] (Aw k).length, .tok 2 v ((Aw k).length + 2)]) ?_ rfl (by simp)
 rw [show AK (N1 k v) 0 0 = BB [] (Aw k ++ 58 :: 32 :: Aw v) 0 from rfl, e1, show ([] : List UInt8) ++ Aw k = Aw k from rfl, e2, e3, e4]
 simp
def Ur (i : Nat) (l : List UInt8) : Hi := ⟨(i : Int) + 1, 0, Mm (Aw l)⟩
def H9 (i : Nat) (l : List UInt8) : En := ⟨(i : Int) + 1, 0, [⟨5, [], 0⟩, ⟨2, l, 2⟩]⟩
def Nf : Nat -> List (List UInt8) -> List Hi
 | _, [] => []
 | i, l :: r => Ur i l :: Nf (i + 1) r
def Hu : Nat -> List (List UInt8) -> List En
 | _, [] => []
 | i, l :: r => H9 i l :: Hu (i + 1) r
theorem K3 : ∀ (i : Nat) (ls : List (List UInt8)), (∀ l ∈ ls, validD l = true) -> C7 (Nf i ls) = .ok (Hu i ls)
 | _, [], _ => rfl
 | i, l :: r, h => by
  rw [Nf, C7, show (Ur i l).s = Mm (Aw l) from rfl, N9 (h l List.mem_cons_self)]
  simp only
  rw [if_neg (by decide), K3 (i + 1) r (fun x hx => h x (List.mem_cons_of_mem _ hx))]
  rfl
theorem K2 : ∀ (ls : List (List UInt8)) (i F : Nat) (acc : List Tr), (∀ l ∈ ls, validD l = true) -> ls.length + 4 <= F -> Bn F 0 1 (Hu i ls) acc = .ok (BA (acc ++ ls.map DS)) []
 | [], i, F, acc, _, hF => by
  obtain ⟨F, rfl⟩ : ∃ G, F = G + 1 := ⟨F - 1, by omega⟩
  rw [Hu, Bn, List.map_nil, List.append_nil]
 | l :: r, i, F, acc, h, hF => by
  obtain ⟨F, rfl⟩ : ∃ G, F = G + 3 := ⟨F - 3, by simp at hF; omega⟩
  have hb : Bp (H9 i l).l = .dash := by unfold Bp GT H9; simp
  have hp : Bp ([⟨2, l, 2⟩] : List AV) = .plain := by unfold Bp GT; simp [EK]
  rw [Hu, Bn]
  (try simp only)
  rw [if_pos ⟨rfl, hb⟩, AQ, if_neg (by unfold H9; simp), A8]
  (try simp only)
  rw [if_neg (by decide), show (Ca (H9 i l)).l = [⟨2, l, 2⟩] from rfl, hp]
  simp only
  have hv : ∀ no r, Bu no [⟨2, l, 2⟩] 2 r = .ok (DS l) r := fun no r => by
   unfold Bu
   rw [show AP ([⟨2, l, 2⟩] : List AV) = [Hp l] from rfl, JS (h l List.mem_cons_self), if_neg (by decide), if_neg (by simp), if_neg (by simp only; unfold DS; rw [Eq]; decide)]
  rw [show (1 : Nat) + 1 = 2 from rfl, hv]
  simp only [BR.bind]
  rw [K2 r (i + 1) (F + 2) _ (fun x hx => h x (List.mem_cons_of_mem _ hx)) (by simp at hF; omega)]
  simp
theorem Uv (ls : List (List UInt8)) (F : Nat) (h : ∀ l ∈ ls, validD l = true) (hF : ls.length + 6 <= F) :
  AL F (Nf 0 ls) = if ls = [] then (CL, 0, 0) else (BA (ls.map DS), 0, 0) := by
 have hin : ∀ (i : Nat) (ls : List (List UInt8)), ∀ x ∈ Nf i ls, 0 <= x.ind /\ x.ind <= 8000 := fun i ls => by
  induction ls generalizing i with
  | nil => intro x hx; cases hx
  | cons l r ih =>
   intro x hx
   rcases List.mem_cons.1 hx with rfl | hx
   ·exact ⟨by show (0 : Int) <= 0; omega, by show (0 : Int) <= 8000; omega⟩
   ·exact ih _ x hx
 unfold AL
 rw [Fn (hin 0 ls), K3 0 ls h]
 simp only
 unfold B2
 cases ls with
 | nil => rfl
 | cons l r =>
  obtain ⟨F, rfl⟩ : ∃ G, F = G + 1 := ⟨F - 1, by omega⟩
  have hb : Bp (H9 0 l).l = .dash := by unfold Bp GT H9; simp
  rw [if_neg (by simp [Hu]), if_neg (by simp), Hu, A8]
  (try simp only)
  rw [if_neg (by decide), hb]
  simp only
  have := K2 (l :: r) 0 F [] h (by omega)
  rw [Hu, List.nil_append] at this
  rw [show (H9 0 l).col = 0 from rfl, this]
  rfl
def Up (i : Nat) (k v : List UInt8) : Hi := ⟨(i : Int) + 1, 0, N1 k v⟩
def Ex (i : Nat) (k v : List UInt8) : En := ⟨(i : Int) + 1, 0, [⟨2, k, 0⟩, ⟨6, [], (Aw k).length⟩, ⟨2, v, (Aw k).length + 2⟩]⟩
def Ms : Nat -> List (List UInt8 × List UInt8) -> List Hi
 | _, [] => []
 | i, x :: r => Up i x.1 x.2 :: Ms (i + 2) r
def Fl : Nat -> List (List UInt8 × List UInt8) -> List En
 | _, [] => []
 | i, x :: r => Ex i x.1 x.2 :: Fl (i + 2) r
def PX (l : List UInt8) : Sc := ⟨3, 0, ⟨l.toArray⟩⟩
theorem K8 : ∀ (i : Nat) (ls : List (List UInt8 × List UInt8)), (∀ x ∈ ls, validD x.1 = true /\ validD x.2 = true) -> C7 (Ms i ls) = .ok (Fl i ls)
 | _, [], _ => rfl
 | i, x :: r, h => by
  have hx := h x List.mem_cons_self
  rw [Ms, C7, show (Up i x.1 x.2).s = N1 x.1 x.2 from rfl, Ou hx.1 hx.2]
  simp only
  rw [if_neg (by decide), K8 (i + 2) r (fun y hy => h y (List.mem_cons_of_mem _ hy))]
  rfl
theorem Ja : ∀ (ls : List (List UInt8 × List UInt8)) (i F : Nat) (ks : List Sc) (ts : List Tr), (∀ x ∈ ls, validD x.1 = true /\ validD x.2 = true) -> ls.length + 4 <= F →
  AD F 0 1 (Fl i ls) ks ts = .ok (BJ (ks ++ ls.map (fun x => PX x.1)) (ts ++ ls.map (fun x => DS x.2))) []
 | [], i, F, ks, ts, _, hF => by
  obtain ⟨F, rfl⟩ : ∃ G, F = G + 1 := ⟨F - 1, by omega⟩
  rw [Fl, AD, List.map_nil, List.map_nil, List.append_nil, List.append_nil]
 | x :: r, i, F, ks, ts, h, hF => by
  obtain ⟨F, rfl⟩ : ∃ G, F = G + 3 := ⟨F - 3, by simp at hF; omega⟩
  obtain ⟨k, v⟩ := x
  have hx := h (k, v) List.mem_cons_self
  dsimp only at hx
  have hb : Bp (Ex i k v).l = .key := by unfold Bp GT Ex; simp
  have hp : ∀ a, Bp ([⟨2, v, a⟩] : List AV) = .plain := fun a => by unfold Bp GT; simp [EK]
  have hkb : Co (Ex i k v).l = (PX k, 0) := by
   have := GA hx.1
   unfold Hp at this
   exact this
  rw [Fl, AD]
  (try simp only)
  rw [if_pos ⟨rfl, hb⟩, hkb]
  simp only
  rw [if_neg (by decide), Bl, show (Ex i k v).l.drop 2 = [⟨2, v, (Aw k).length + 2⟩] from rfl, hp]
  simp only
  rw [if_neg (by unfold Ex; simp)]
  have hv : ∀ no r a, Bu no [⟨2, v, a⟩] 2 r = .ok (DS v) r := fun no r a => by
   unfold Bu
   rw [show AP ([⟨2, v, a⟩] : List AV) = [Hp v] from rfl, JS hx.2, if_neg (by decide), if_neg (by simp), if_neg (by simp only; unfold DS; rw [Eq]; decide)]
  rw [show (1 : Nat) + 1 = 2 from rfl, hv]
  simp only [BR.bind]
  rw [Ja r (i + 2) (F + 2) _ _ (fun y hy => h y (List.mem_cons_of_mem _ hy)) (by simp at hF; omega)]
  simp
theorem UK (ls : List (List UInt8 × List UInt8)) (F : Nat) (h : ∀ x ∈ ls, validD x.1 = true /\ validD x.2 = true) (hF : ls.length + 6 <= F) :
  AL F (Ms 0 ls) = if ls = [] then (CL, 0, 0) else (BJ (ls.map (fun x => PX x.1)) (ls.map (fun x => DS x.2)), 0, 0) := by
 have hin : ∀ (i : Nat) (ls : List (List UInt8 × List UInt8)), ∀ x ∈ Ms i ls, 0 <= x.ind /\ x.ind <= 8000 := fun i ls => by
  induction ls generalizing i with
  | nil => intro x hx; cases hx
  | cons l r ih =>
   intro x hx
   rcases List.mem_cons.1 hx with rfl | hx
   ·exact ⟨by show (0 : Int) <= 0; omega, by show (0 : Int) <= 8000; omega⟩
   ·exact ih _ x hx
 unfold AL
 rw [Fn (hin 0 ls), K8 0 ls h]
 simp only
 unfold B2
 cases ls with
 | nil => rfl
 | cons l r =>
  obtain ⟨F, rfl⟩ : ∃ G, F = G + 1 := ⟨F - 1, by omega⟩
  have hb : Bp (Ex 0 l.1 l.2).l = .key := by unfold Bp GT Ex; simp
  rw [if_neg (by simp [Fl]), if_neg (by simp), Fl, A8]
  (try simp only)
  rw [if_neg (by decide), hb]
  simp only
  have := Ja (l :: r) 0 F [] [] h (by omega)
  rw [Fl, List.nil_append, List.nil_append] at this
  rw [show (Ex 0 l.1 l.2).col = 0 from rfl, this]
  rfl
def Gw : List (List UInt8) -> List UInt8
 | [] => [93]
 | l :: r => Aw l ++ 44 :: 32 :: Gw r
def G1 : List (List UInt8 × List UInt8) -> List UInt8
 | [] => [125]
 | x :: r => Aw x.1 ++ 58 :: 32 :: (Aw x.2 ++ 44 :: 32 :: G1 r)
theorem Ig : ∀ ls : List (List UInt8), (∀ l ∈ ls, validD l = true) -> AC (Gw ls)
 | [], _ => AC.cons (by decide) (by decide) (by decide) AC.nil
 | l :: r, h => AC.quote (h l List.mem_cons_self) (AC.cons (by decide) (by decide) (by decide) (AC.cons (by decide) (by decide) (by decide) (Ig r (fun x hx => h x (List.mem_cons_of_mem _ hx)))))
theorem H7 : ∀ ls : List (List UInt8 × List UInt8), (∀ x ∈ ls, validD x.1 = true /\ validD x.2 = true) -> AC (G1 ls)
 | [], _ => AC.cons (by decide) (by decide) (by decide) AC.nil
 | x :: r, h => AC.quote (h x List.mem_cons_self).1 (AC.cons (by decide) (by decide) (by decide) (AC.cons (by decide) (by decide) (by decide) (AC.quote (h x List.mem_cons_self).2 (AC.cons (by decide) (by decide) (by decide) (AC.cons (by decide) (by decide) (by decide) (H7 r (fun y hy => h y (List.mem_cons_of_mem _ hy))))))))
def VN : List (List UInt8) -> List TP
 | [] => [.tok 9 [] 0]
 | l :: r => .tok 2 l 0 :: .tok 7 [] 0 :: VN r
def VS : List (List UInt8 × List UInt8) -> List TP
 | [] => [.tok 11 [] 0]
 | x :: r => .tok 2 x.1 0 :: .tok 6 [] 0 :: .tok 2 x.2 0 :: .tok 7 [] 0 :: VS r
theorem JP (m : List UInt8) : (AF (44 :: m) 0 1 || C3 (44 :: m) 0 [58]) = true := by
 unfold AF; rw [Ew]; simp [CN, Bm]
theorem IC : ∀ (ls : List (List UInt8)) (b : List UInt8), (∀ l ∈ ls, validD l = true) -> validD (b ++ Gw ls) = true -> (BB b (Gw ls) 1).map kn = VN ls
 | [], b, _, hv => by
  rw [Gw] at hv |-
  rw [GP 93 (.inr (.inl rfl)) hv, FH]; rfl
 | l :: r, b, h, hv => by
  rw [Gw] at hv |-
  rw [CH (h l List.mem_cons_self) b _ 1 hv (JP _), GP 44 (.inl rfl) (by rw [List.append_assoc]; exact hv), if_pos rfl, if_pos rfl,
   CJ (by rw [List.append_assoc, List.append_assoc]; exact hv), List.map_cons, List.map_cons, IC r _ (fun x hx => h x (List.mem_cons_of_mem _ hx)) (by rw [List.append_assoc, List.append_assoc, List.append_assoc]; exact hv)]
  rfl
theorem Je : ∀ (ls : List (List UInt8 × List UInt8)) (b : List UInt8), (∀ x ∈ ls, validD x.1 = true /\ validD x.2 = true) -> validD (b ++ G1 ls) = true -> (BB b (G1 ls) 1).map kn = VS ls
 | [], b, _, hv => by
  rw [G1] at hv |-
  rw [GP 125 (.inr (.inr rfl)) hv, FH]; rfl
 | x :: r, b, h, hv => by
  rw [G1] at hv |-
  have hx := h x List.mem_cons_self
  rw [CH hx.1 b _ 1 hv (by rw [Ew]; simp [Bm]), Hz (by rw [List.append_assoc]; exact hv), CJ (by rw [List.append_assoc, List.append_assoc]; exact hv),
   CH hx.2 _ _ 1 (by rw [List.append_assoc, List.append_assoc, List.append_assoc]; exact hv) (JP _), GP 44 (.inl rfl) (by rw [List.append_assoc, List.append_assoc, List.append_assoc, List.append_assoc]; exact hv), if_pos rfl, if_pos rfl,
   CJ (by rw [List.append_assoc, List.append_assoc, List.append_assoc, List.append_assoc, List.append_assoc]; exact hv), List.map_cons, List.map_cons, List.map_cons, List.map_cons,
   Je r _ (fun y hy => h y (List.mem_cons_of_mem _ hy)) (by rw [List.append_assoc, List.append_assoc, List.append_assoc, List.append_assoc, List.append_assoc, List.append_assoc]; exact hv)]
  rfl
theorem Uh : ∀ ls, SO (VN ls) = true
 | [] => rfl
 | _ :: r => Uh r
theorem Ut : ∀ ls, SO (VS ls) = true
 | [] => rfl
 | _ :: r => Ut r
theorem VH : ∀ ls : List (List UInt8), (∀ l ∈ ls, validD l = true) -> PI ((VN ls).map QD) (ls.map DS)
 | [], _ => PI.nil _ rfl
 | l :: r, h => PI.cons [Hp l] (DS l) ⟨7, []⟩ _ _ (Og (h l List.mem_cons_self)) rfl (VH r (fun x hx => h x (List.mem_cons_of_mem _ hx)))
theorem VB : ∀ ls : List (List UInt8 × List UInt8), (∀ x ∈ ls, validD x.1 = true /\ validD x.2 = true) -> PD ((VS ls).map QD) (ls.map (fun x => PX x.1)) (ls.map (fun x => DS x.2))
 | [], _ => PD.nil _ rfl
 | x :: r, h => by
  have hx := h x List.mem_cons_self
  have hp := PP.some (Hp x.1) ⟨6, []⟩ [Hp x.2] (DS x.2) (by rw [GA hx.1]) rfl (Og hx.2)
  rw [GA hx.1] at hp
  exact PD.cons [Hp x.1, ⟨6, []⟩, Hp x.2] (PX x.1) (DS x.2) ⟨7, []⟩ _ _ _ hp rfl (VB r (fun y hy => h y (List.mem_cons_of_mem _ hy)))
theorem Hg : ∀ ls : List (List UInt8), Ak.deepTs (ls.map DS) <= 1
 | [] => by rw [List.map_nil, AY]; omega
 | l :: r => by have := Hg r; rw [List.map_cons, AM]; unfold DS at this |-; rw [Eq]; omega
theorem K9 {F : Nat} (c : UInt8) (m : List UInt8) (no : Int) {ps : List TP} {t : Tr} (hc : c = 91 \/ c = 123) (hF : 1 <= F) (hr : AC (c :: m)) (hp : (BB [c] m 1).map kn = ps) (hok : SO ps = true) (hPV : PV ((⟨if c = 91 then 8 else 10, []⟩ : Pc) :: ps.map QD) t) (hd : Ak t <= 24) : AL F [⟨no, 0, c :: m⟩] = (t, 0, 0) := by
 obtain ⟨F, rfl⟩ : ∃ G, F = G + 1 := ⟨F - 1, by omega⟩
 have e1 := Od (b := []) (m := m) c hc (by exact hr.1) 0
 have hok2 : SO (BB ([] ++ [c]) m (0 + 1)) = true := by rw [<- Ry]; rw [show (BB ([] ++ [c]) m (0 + 1)).map kn = ps from hp]; exact hok
 have h1 := IE (l := c :: m) hr.1 hr.2 (ps := _) e1 (by exact hok2) (by simp)
 have hpcs : AP (((TP.tok (if c = 91 then 8 else 10) [] (List.length ([] : List UInt8)) :: BB ([] ++ [c]) m (0 + 1)).map Hm).map Kq) = (⟨if c = 91 then 8 else 10, []⟩ : Pc) :: ps.map QD := by
  rw [MP _ (by exact hok2), List.map_cons, List.map_cons, show (BB ([] ++ [c]) m (0 + 1)).map kn = ps from hp]
  simp only [kn, QD]
  rcases hc with rfl | rfl <;> rfl
 unfold AL
 rw [Fn (by intro x hx; rw [List.mem_singleton.1 hx]; exact ⟨by show (0 : Int) <= 0; omega, by show (0 : Int) <= 8000; omega⟩), C7, C7]
 simp only
 rw [h1]
 simp only
 rw [if_neg (by decide)]
 show B2 (F + 1) [_] = _
 unfold B2
 rw [if_neg (by simp), A8]
 simp only
 rw [if_neg (by decide)]
 obtain ⟨tk, htk⟩ : ∃ tk, ((TP.tok (if c = 91 then 8 else 10) [] (List.length ([] : List UInt8)) :: BB ([] ++ [c]) m (0 + 1)).map Hm).map Kq = tk := ⟨_, rfl⟩
 rw [htk] at hpcs |-
 have hb : Bp tk = .plain := by
  cases tk with
  | nil => rw [show AP ([] : List AV) = [] from rfl] at hpcs; cases hpcs
  | cons a r =>
   have h2 : (⟨a.kind, a.str⟩ : Pc) = ⟨if c = 91 then 8 else 10, []⟩ := by unfold AP at hpcs; injection hpcs
   injection h2 with h2 _
   unfold Bp GT
   rcases hc with rfl | rfl <;> simp at h2 <;> simp [h2]
 rw [hb]
 simp only
 unfold Bu
 rw [hpcs, MR hPV, if_pos hd, if_neg (by decide), if_neg (by simp), if_neg (by simp only; omega)]
 rfl
theorem UV (ls : List (List UInt8)) (F : Nat) (no : Int) (h : ∀ l ∈ ls, validD l = true) (hF : 1 <= F) : AL F [⟨no, 0, 91 :: Gw ls⟩] = (BA (ls.map DS), 0, 0) := by
 have hr : AC (91 :: Gw ls) := AC.cons (by decide) (by decide) (by decide) (Ig ls h)
 exact K9 91 (Gw ls) no (.inl rfl) hF hr (IC ls [91] h hr.1) (Uh ls) (PV.lst _ _ _ rfl (VH ls h)) (by rw [G4]; have := Hg ls; omega)
theorem UW (ls : List (List UInt8 × List UInt8)) (F : Nat) (no : Int) (h : ∀ x ∈ ls, validD x.1 = true /\ validD x.2 = true) (hF : 1 <= F) : AL F [⟨no, 0, 123 :: G1 ls⟩] = (BJ (ls.map (fun x => PX x.1)) (ls.map (fun x => DS x.2)), 0, 0) := by
 have hr : AC (123 :: G1 ls) := AC.cons (by decide) (by decide) (by decide) (H7 ls h)
 exact K9 123 (G1 ls) no (.inr rfl) hF hr (Je ls [123] h hr.1) (Ut ls) (PV.dic _ _ _ _ rfl (VB ls h)) (by rw [GD]; have := Hg (ls.map (fun x => x.2)); rw [List.map_map] at this; have e : (DS ∘ fun x : List UInt8 × List UInt8 => x.2) = fun x => DS x.2 := rfl; rw [e] at this; omega)
end
section
theorem MK : ∀ {l : List Hi} {es : List En}, C7 l = .ok es -> Dw es <= (l.map fun x => x.s.length + 1).sum
 | [], es, h => by
  rw [C7] at h; injection h with h; subst h
  exact Nat.le_refl _
 | x :: r, es, h => by
  rw [C7] at h
  split at h
  ·cases h
  ·cases hr : C7 r with
   | bad no e => rw [hr] at h; cases h
   | ok es' =>
    rw [hr] at h
    injection h with h
    subst h
    have g2 := MK hr
    rw [AA, List.map_cons, List.sum_cons]
    have := (EG x.s).1
    have e : ((B9 x.s).1).length = (C0 x.s).1.length := List.length_map _
    show ((B9 x.s).1).length + 1 + Dw es' <= _
    omega
theorem S9 (c : Nat) : ∀ l : List Sc, (∀ x ∈ l, x.str.size <= c) -> ((l.map B7).map fun x => x.s.length + 1).sum <= (c + 1) * l.length
 | [], _ => Nat.zero_le _
 | x :: r, h => by
  have h1 := S9 c r (fun y hy => h y (List.mem_cons_of_mem _ hy))
  have h2 := h x List.mem_cons_self
  have h3 : (B7 x).s.length = x.str.size := by show x.str.data.toList.length = _; rw [<- Lib.size_eq]
  rw [List.map_cons, List.map_cons, List.sum_cons, List.length_cons, h3, Nat.mul_add, Nat.mul_one]
  omega
theorem VO {ys : List Sc} {n : Nat} (hl : ys.length <= n) (hs : ∀ x ∈ ys, x.str.size <= 400) : ∀ es, C7 (ys.map B7) = .ok es -> 4 * Dw es + 2 <= 1604 * n + 2 := fun es he => by
 have h1 := MK he
 have h2 := S9 400 ys hs
 have h3 : (400 + 1) * ys.length <= (400 + 1) * n := Nat.mul_le_mul_left _ hl
 omega
theorem V7 (ys : List Sc) (n j : Int) : (ys.map (Le n j)).map B7 = (ys.map B7).map (QH n j) := by
 rw [List.map_map, List.map_map]; rfl
theorem We {w : World} {b : Nat} {k n : Int} {s : ByteArray} {ty : TypeId} (h : w.heap[b]? = some (.cells #[.int .i64 k, .int .i64 n, .string s] ty)) : Cy w (.slice (some ⟨b, 0, none⟩) 1 1) [⟨k, n, s⟩] := by
 refine ⟨some ⟨b, 0, none⟩, 1, rfl, fun j hj => ⟨b, 0, rfl, (Gl h), ?_⟩⟩
 have : j = 0 := by simp at hj; omega
 subst this
 simp [World.cell?, h]
theorem VF (k n : Int) (s : ByteArray) : [Sc.mk k n s].map B7 = [⟨k, n, s.data.toList⟩] := rfl
theorem VR (xs : List Sc) : ((xs.take 40).map Ip).length <= 40 := by rw [List.length_map, List.length_take]; omega
theorem Wk (xs : List Sc) : ∀ x ∈ (xs.take 40).map Ip, x.str.size <= 400 := fun x hx => by
 obtain ⟨y, _, rfl⟩ := List.mem_map.1 hx
 show (⟨(y.str.data.toList.take 200).toArray⟩ : ByteArray).size <= 400
 rw [CB, List.length_take]
 omega
theorem VV (xs : List Sc) {P : Int -> Prop} (h : ∀ x ∈ xs, P x.num) : ∀ x ∈ (xs.take 40).map Ip, P x.num := fun x hx => by
 obtain ⟨y, hy, rfl⟩ := List.mem_map.1 hx
 exact h y (List.mem_of_mem_take hy)
theorem UQ {w : World} {S : Nat -> Prop} {t : Tr} {v : Value} (h : Ao w S t v) : Ao w (fun _ => True) t v := Au (fun _ _ _ => trivial) t v h
theorem Wc {w : World} {N c : Nat} {t : Tr} {S : Nat -> Prop} {ty : TypeId} {v0 v1 v2 v3 v4 v5 v6 : Value} (hb : w.heap[N]? = some (.cells #[v0, v1, v2, v3, v4, v5, v6] ty)) (h : Ao w S t (.agg #[v0, v1, v2, v3, v4, v5, v6])) :
  Ao w (fun _ => True) (BA [t]) (.agg #[.int .i64 1, .string ⟨#[]⟩, .int .i64 0, .int .i64 0, .string ⟨#[]⟩, .slice none 0 0, .slice (some ⟨N, 0, none⟩) 1 c]) := by
 obtain ⟨x0, x1, x2, x3, x4, x5, x6, _, _, _, _, _, _, _⟩ := Ay hb
 unfold BA
 rw [Ao]
 refine ⟨.slice none 0 0, some ⟨N, 0, none⟩, c, rfl, Cy.nil w, Gx.nil _, ?_⟩
 rw [Ao.TsIn, Ao.TsIn]
 refine ⟨⟨N, 0, .agg #[v0, v1, v2, v3, v4, v5, v6], rfl, trivial, (Gl hb), ?_, UQ h⟩, trivial⟩
 obtain ⟨k, nm, xk, xn, xs, KA, kl, kc, A, l, ca, e⟩ := h.form
 simp only [Value.agg.injEq, Array.mk.injEq, List.cons.injEq, and_true] at e
 obtain ⟨rfl, rfl, rfl, rfl, rfl, rfl, rfl⟩ := e
 exact ⟨k, nm, ⟨xk, xn, xs⟩, _, _, rfl, x0, x1, x2, x3, x4, x5, x6⟩
theorem IN (M : Nat) : ∀ ts : List Tr, Sm.SmTs M ts ↔ ∀ t ∈ ts, Sm M t
 | [] => by simp [Sm.SmTs]
 | t :: r => by rw [Sm.SmTs, IN M r]; simp
theorem R6 {M : Nat} {ts : List Tr} (hl : ts.length <= M) (h : ∀ t ∈ ts, Sm M t) : Sm M (BA ts) := by
 unfold BA
 rw [Sm]
 exact ⟨Nat.zero_le _, hl, (IN M ts).2 h⟩
theorem Sw {M : Nat} {ks : List Sc} {ts : List Tr} (hk : ks.length <= M) (hl : ts.length <= M) (h : ∀ t ∈ ts, Sm M t) : Sm M (BJ ks ts) := by
 unfold BJ
 rw [Sm]
 exact ⟨hk, hl, (IN M ts).2 h⟩
theorem Tn (l : List AV) : (AP l).length = l.length := List.length_map _
theorem Pr {M : Nat} {no : Int} {l : List AV} {d : Nat} {r rest : List En} {t : Tr} (h : Bu no l d r = .ok t rest) (hm : l.length <= M) : Sm M t := by
 obtain ⟨_, _, h3, h4⟩ := FD h
 have := My (l := AP l) (t := t) (Prod.ext h3.symm h4)
 exact Us this.1 (by rw [Tn]; exact hm)
theorem Kx {x : En} {r rest : List En} (h : rest <:+ r) : Dw rest + 1 + x.l.length <= Dw (x :: r) := by
 have := DN h
 rw [AA]; omega
theorem Wr (M : Nat) : ∀ n, (∀ m d l t rest, A8 n m d l = .ok t rest -> Dw l <= M -> Sm M t) /\ (∀ no m d l t rest, Ap n no m d l = .ok t rest -> Dw l <= M -> Sm M t) ∧
  (∀ d x r t rest, AQ n d x r = .ok t rest -> Dw (x :: r) <= M -> Sm M t) /\ (∀ col d l acc t rest, Bn n col d l acc = .ok t rest -> acc.length + Dw l <= M -> (∀ a ∈ acc, Sm M a) -> Sm M t) ∧
  (∀ d x r t rest, Bl n d x r = .ok t rest -> Dw (x :: r) <= M -> Sm M t) /\ (∀ col d l ks ts t rest, AD n col d l ks ts = .ok t rest -> ks.length + Dw l <= M -> ts.length + Dw l <= M -> (∀ a ∈ ts, Sm M a) -> Sm M t)
 | 0 => by refine ⟨?_, ?_, ?_, ?_, ?_, ?_⟩ <;> intros <;> rename_i h _ <;> simp [A8, Ap, AQ, Bn, Bl, AD] at *
 | n + 1 => by
  obtain ⟨hN, hB, hI, hS, hP, hD⟩ := Wr M n
  obtain ⟨_, _, sI, _, _, sP, _, _⟩ := suffix n
  refine ⟨fun m d l t rest h hm => ?_, fun no m d l t rest h hm => ?_, fun d x r t rest h hm => ?_, fun col d l acc t rest h hm ha => ?_, fun d x r t rest h hm => ?_, fun col d l ks ts t rest h hk hm ha => ?_⟩
  ·cases l with
   | nil => simp [A8] at h
   | cons x r =>
    rw [A8] at h
    split at h
    ·cases h
    ·split at h
     ·exact hS _ _ _ _ _ _ h (by simpa using hm) (fun a h => by cases h)
     ·exact hD _ _ _ _ _ _ _ h (by simpa using hm) (by simpa using hm) (fun a h => by cases h)
     ·obtain ⟨t', h1, h2, _⟩ := Is h
      rw [h2]
      exact Jz (hB _ _ _ _ _ _ h1 (by rw [AA] at hm; omega)) _
     ·exact Pr h (by rw [AA] at hm; omega)
  ·cases l with
   | nil =>
    rw [Ap] at h
    split at h
    ·cases h
    ·injection h with h _; rw [<- h]; exact Ff M
   | cons x r =>
    rw [Ap] at h
    split at h
    ·exact hN _ _ _ _ _ h hm
    ·split at h
     ·cases h
     ·injection h with h _; rw [<- h]; exact Ff M
  ·rw [AQ] at h
   split at h
   ·exact hB _ _ _ _ _ _ h (by rw [AA] at hm; omega)
   ·refine hN _ _ _ _ _ h ?_
    rw [AA] at hm |-
    have : (Ca x).l.length <= x.l.length := by show x.l.tail.length <= _; rw [List.length_tail]; omega
    omega
  ·cases l with
   | nil => rw [Bn] at h; injection h with h _; rw [<- h]; exact R6 (by omega) ha
   | cons x r =>
    rw [Bn] at h
    split at h
    ·cases hi : AQ n (d + 1) x r with
     | ok t1 rest1 =>
      rw [hi] at h
      have h1 := hI _ _ _ _ _ hi (by omega)
      have h2 := Kx (x := x) (sI _ _ _ _ _ hi)
      refine hS _ _ _ _ _ _ h (by rw [List.length_append]; simp only [List.length_cons, List.length_nil]; omega) (fun a h => ?_)
      rcases List.mem_append.1 h with h | h
      ·exact ha a h
      ·rw [List.mem_singleton.1 h]; exact h1
     | bad no e => rw [hi] at h; cases h
     | out => rw [hi] at h; cases h
    ·obtain ⟨h1, _, _⟩ := GN h
     rw [h1]; exact R6 (by omega) ha
  ·rw [Bl] at h
   split at h
   ·obtain ⟨t', h1, h2, _⟩ := Is h
    rw [h2]
    exact Jz (hB _ _ _ _ _ _ h1 (by rw [AA] at hm; omega)) _
   ·split at h
    ·exact hB _ _ _ _ _ _ h (by rw [AA] at hm; omega)
    ·exact Pr h (by rw [AA] at hm; rw [List.length_drop]; omega)
  ·cases l with
   | nil => rw [AD] at h; injection h with h _; rw [<- h]; exact Sw (by omega) (by omega) ha
   | cons x r =>
    rw [AD] at h
    split at h
    ·split at h
     ·cases h
     ·cases hi : Bl n (d + 1) x r with
      | ok t1 rest1 =>
       rw [hi] at h
       have h1 := hP _ _ _ _ _ hi (by omega)
       have h2 := Kx (x := x) (sP _ _ _ _ _ hi)
       refine hD _ _ _ _ _ _ _ h (by rw [List.length_append]; simp only [List.length_cons, List.length_nil]; omega) (by rw [List.length_append]; simp only [List.length_cons, List.length_nil]; omega) (fun a h => ?_)
       rcases List.mem_append.1 h with h | h
       ·exact ha a h
       ·rw [List.mem_singleton.1 h]; exact h1
      | bad no e => rw [hi] at h; cases h
      | out => rw [hi] at h; cases h
    ·obtain ⟨h1, _, _⟩ := GN h
     rw [h1]; exact Sw (by omega) (by omega) ha
theorem VW {F M : Nat} {l : List Hi} (hF : ∀ es, C7 l = .ok es -> Dw es <= M) : Sm M (AL F l).1 := by
 unfold AL Lq
 split
 ·rename_i es he
  split at he
  ·unfold B2
   split
   ·exact Ff M
   ·cases hn : A8 F (-1) 1 es with
    | ok t rest =>
     cases rest with
     | nil => exact (Wr M F).1 _ _ _ _ _ hn (hF es he)
     | cons x r => exact Ff M
    | bad no e => exact Ff M
    | out => exact Ff M
  ·cases he
 ·exact Ff M
theorem Wo (P : Int -> Prop) : ∀ n, (∀ m d l no e, A8 n m d l = .bad no e -> (∀ x ∈ l, P x.no) -> P no) /\ (∀ n0 m d l no e, Ap n n0 m d l = .bad no e -> P n0 -> (∀ x ∈ l, P x.no) -> P no) ∧
  (∀ d x r no e, AQ n d x r = .bad no e -> (∀ y ∈ x :: r, P y.no) -> P no) /\ (∀ col d l acc no e, Bn n col d l acc = .bad no e -> (∀ x ∈ l, P x.no) -> P no) ∧
  (∀ d x r no e, Bl n d x r = .bad no e -> (∀ y ∈ x :: r, P y.no) -> P no) /\ (∀ col d l ks ts no e, AD n col d l ks ts = .bad no e -> (∀ x ∈ l, P x.no) -> P no)
 | 0 => by refine ⟨?_, ?_, ?_, ?_, ?_, ?_⟩ <;> intros <;> simp [A8, Ap, AQ, Bn, Bl, AD] at *
 | n + 1 => by
  obtain ⟨hN, hB, hI, hS, hP, hD⟩ := Wo P n
  obtain ⟨_, _, sI, _, _, sP, _, _⟩ := suffix n
  have hV : ∀ no l d r n2 e, Bu no l d r = .bad n2 e -> n2 = no := fun no l d r n2 e h => OP h
  have hM : ∀ no s b n2 e, D7 no s b = .bad n2 e -> n2 = no \/ b = .bad n2 e := fun no s b n2 e h => by
   cases b with
   | ok t r =>
    unfold D7 at h
    simp only at h
    split at h
    ·injection h with h _; exact .inl h.symm
    ·cases h
   | bad a b => exact .inr h
   | out => cases h
  have hE : ∀ col t x r n2 e, CR col t x r = .bad n2 e -> n2 = x.no := fun col t x r n2 e h => by
   unfold CR at h
   split at h
   ·cases h
   ·split at h <;> (injection h with h _; exact h.symm)
  refine ⟨fun m d l no e h hx => ?_, fun n0 m d l no e h h0 hx => ?_, fun d x r no e h hx => ?_, fun col d l acc no e h hx => ?_, fun d x r no e h hx => ?_, fun col d l ks ts no e h hx => ?_⟩
  ·cases l with
   | nil => simp [A8] at h
   | cons x r =>
    have hx0 := hx x List.mem_cons_self
    have hxr : ∀ y ∈ r, P y.no := fun y hy => hx y (List.mem_cons_of_mem _ hy)
    rw [A8] at h
    split at h
    ·injection h with h _; rw [<- h]; exact hx0
    ·split at h
     ·exact hS _ _ _ _ _ _ h hx
     ·exact hD _ _ _ _ _ _ _ h hx
     ·rcases hM _ _ _ _ _ h with h | h
      ·rw [h]; exact hx0
      ·exact hB _ _ _ _ _ _ h hx0 hxr
     ·rw [hV _ _ _ _ _ _ h]; exact hx0
  ·cases l with
   | nil =>
    rw [Ap] at h
    split at h
    ·injection h with h _; rw [<- h]; exact h0
    ·cases h
   | cons x r =>
    rw [Ap] at h
    split at h
    ·exact hN _ _ _ _ _ h hx
    ·split at h
     ·injection h with h _; rw [<- h]; exact h0
     ·cases h
  ·have hx0 := hx x List.mem_cons_self
   have hxr : ∀ y ∈ r, P y.no := fun y hy => hx y (List.mem_cons_of_mem _ hy)
   rw [AQ] at h
   split at h
   ·exact hB _ _ _ _ _ _ h hx0 hxr
   ·refine hN _ _ _ _ _ h (fun y hy => ?_)
    rcases List.mem_cons.1 hy with rfl | hy
    ·exact hx0
    ·exact hxr y hy
  ·cases l with
   | nil => rw [Bn] at h; cases h
   | cons x r =>
    have hxr : ∀ y ∈ r, P y.no := fun y hy => hx y (List.mem_cons_of_mem _ hy)
    rw [Bn] at h
    split at h
    ·cases hi : AQ n (d + 1) x r with
     | ok t1 rest1 =>
      rw [hi] at h
      exact hS _ _ _ _ _ _ h (fun y hy => hxr y ((sI _ _ _ _ _ hi).subset hy))
     | bad n2 e2 => rw [hi] at h; injection h with h _; rw [<- h]; exact hI _ _ _ _ _ hi hx
     | out => rw [hi] at h; cases h
    ·rw [hE _ _ _ _ _ _ h]; exact hx x List.mem_cons_self
  ·have hx0 := hx x List.mem_cons_self
   have hxr : ∀ y ∈ r, P y.no := fun y hy => hx y (List.mem_cons_of_mem _ hy)
   rw [Bl] at h
   split at h
   ·rcases hM _ _ _ _ _ h with h | h
    ·rw [h]; exact hx0
    ·exact hB _ _ _ _ _ _ h hx0 hxr
   ·split at h
    ·exact hB _ _ _ _ _ _ h hx0 hxr
    ·rw [hV _ _ _ _ _ _ h]; exact hx0
  ·cases l with
   | nil => rw [AD] at h; cases h
   | cons x r =>
    have hxr : ∀ y ∈ r, P y.no := fun y hy => hx y (List.mem_cons_of_mem _ hy)
    rw [AD] at h
    split at h
    ·split at h
     ·injection h with h _; rw [<- h]; exact hx x List.mem_cons_self
     ·cases hi : Bl n (d + 1) x r with
      | ok t1 rest1 =>
       rw [hi] at h
       exact hD _ _ _ _ _ _ _ h (fun y hy => hxr y ((sP _ _ _ _ _ hi).subset hy))
      | bad n2 e2 => rw [hi] at h; injection h with h _; rw [<- h]; exact hP _ _ _ _ _ hi hx
      | out => rw [hi] at h; cases h
    ·rw [hE _ _ _ _ _ _ h]; exact hx x List.mem_cons_self
theorem ON (P : Int -> Prop) : ∀ {l : List Hi}, (∀ x ∈ l, P x.no) -> match C7 l with
  | .ok es => ∀ y ∈ es, P y.no
  | .bad no _ => P no
 | [], _ => by rw [C7]; intro y hy; cases hy
 | x :: r, h => by
  have ih := ON P (l := r) (fun y hy => h y (List.mem_cons_of_mem _ hy))
  rw [C7]
  by_cases hz : (B9 x.s).2 ≠ 0
  ·rw [if_pos hz]; exact h x List.mem_cons_self
  ·rw [if_neg hz]
   cases hr : C7 r with
   | ok es =>
    rw [hr] at ih
    intro y hy
    rcases List.mem_cons.1 hy with rfl | hy
    ·exact h x List.mem_cons_self
    ·exact ih y hy
   | bad no e => rw [hr] at ih; exact ih
theorem VY {F : Nat} {l : List Hi} (P : Int -> Prop) (h0 : P 0) (h : ∀ x ∈ l, P x.no) : P (AL F l).2.1 := by
 have h1 := ON P h
 unfold AL Lq
 by_cases ha : l.all GB = true
 ·rw [if_pos ha]
  cases ho : C7 l with
  | bad no e => rw [ho] at h1; exact h1
  | ok es =>
   rw [ho] at h1
   simp only
   unfold B2
   split
   ·exact h0
   ·cases hn : A8 F (-1) 1 es with
    | ok t rest =>
     cases rest with
     | nil => exact h0
     | cons x r =>
      cases es with
      | nil =>
       cases F with
       | zero => rw [A8] at hn; cases hn
       | succ F => rw [A8] at hn; cases hn
      | cons y es => exact h1 x (List.mem_cons_of_mem _ (((suffix F).1 _ _ _ _ _ _ hn).subset List.mem_cons_self))
    | bad no e => exact (Wo P F).1 _ _ _ _ _ hn h1
    | out => exact h0
 ·rw [if_neg ha]; exact h0
end
end Go.Proofs.YtaogfdffgdglkaaGreatDoor
