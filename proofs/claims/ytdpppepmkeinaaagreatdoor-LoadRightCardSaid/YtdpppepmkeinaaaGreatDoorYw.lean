/- What is proved: a part of the walk of the program and of its plain laws; no condition beside those that each theorem names. -/
import Derived.Test.YtdpppepmkeinaaaGreatDoorYa
import Derived.Test.YtdpppepmkeinaaaGreatDoorYv
import Derived.Test.YtdpppepmkeinaaaGreatDoorYg
import Derived.Test.YtdpppepmkeinaaaGreatDoorYMaps
import Derived.Sort.LotA
import Derived.Shelf.SlSortCmp.KitK
import Derived.Shelf.SlGeneric
import Derived.Sort.WalkB2
import Derived.Sort.WalkB12
import Derived.Deep.LoopGhost
import Derived.Deep.CutRange
import Derived.Handy
import Derived.Deep.RegionHeld3
import Derived.Shelf.SlLaysF0
import Derived.Stop.RegionWithIn
import Derived.WideKeyRuns
namespace Go.Proofs.YtdpppepmkeinaaaGreatDoor
open Go Go.RowKit Go.Lib
open Go.Value renaming int->I,string->Q,slice->Z
open Go.IntKind renaming i64->J
open Option renaming none->O,some->F
open _root_.Go renaming World->Y
set_option linter.unusedSimpArgs false
set_option linter.unusedVariables false
set_option linter.unusedSectionVars false
section
open Go.Sort
variable {α:Type} [Inhabited α]
def Cf (a b n i:Nat) (d:Array α):Array α:=if i<n then Cf a b n (i+1) (swp d (a+i) (b+i)) else d
termination_by n - i
theorem ED (a b n i:Nat) (d:Array α) (h:i<n):Cf a b n i d=Cf a b n (i+1) (swp d (a+i) (b+i)):=by rw[Cf,if_pos h]
theorem B7 (a b n i:Nat) (d:Array α) (h:¬i<n):Cf a b n i d=d:=by rw[Cf,if_neg h]
theorem GW (a b n:Nat):∀ (k i:Nat) (d:Array α),n - i<=k->(Cf a b n i d).size=d.size
 | 0,i,d,h=>by rw[B7 _ _ _ _ _ (by omega)]
 | k+1,i,d,h=>by
  by_cases hi:i<n
  ·rw[ED _ _ _ _ _ hi,GW a b n k _ _ (by omega),size_swp]
  ·rw[B7 _ _ _ _ _ hi]
def DX (a b n:Nat) (d:Array α):Array α:=Cf a b n 0 d
theorem Ez (a b n:Nat) (d:Array α):(DX a b n d).size=d.size:=GW a b n n 0 d (by omega)
theorem IK (a b n:Nat):∀ (k i:Nat) (d:Array α),n - i<=k->a+n<=b->b+n<=d.size->∀ t,
  (Cf a b n i d)[t]! =if a+i<=t/\t<a+n then d[b+(t - a)]! else if b+i<=t/\t<b+n then d[a+(t - b)]! else d[t]!
 | 0,i,d,h,hab,hb,t=>by
  rw[B7 _ _ _ _ _ (by omega),if_neg (by omega),if_neg (by omega)]
 | k+1,i,d,h,hab,hb,t=>by
  by_cases hi:i<n
  ·rw[ED _ _ _ _ _ hi,IK a b n k (i+1) _ (by omega) hab (by rw[size_swp];exact hb)];have g:=swp_get d (show a+i<d.size by omega) (show b+i<d.size by omega);by_cases c1:a+(i+1)<=t/\t<a+n
   ·rw[if_pos c1,if_pos (by omega),g,if_neg (by omega),if_neg (by omega)]
   ·rw[if_neg c1];by_cases c2:b+(i+1)<=t/\t<b+n
    ·rw[if_pos c2,if_neg (by omega),if_pos (by omega),g,if_neg (by omega),if_neg (by omega)]
    ·rw[if_neg c2,g];by_cases c3:t=b+i
     ·rw[if_pos c3,if_neg (by omega),if_pos (by omega)];congr 1;omega
     ·rw[if_neg c3];by_cases c4:t=a+i
      ·rw[if_pos c4,if_pos (by omega)];congr 1;omega
      ·rw[if_neg c4,if_neg (by omega),if_neg (by omega)]
  ·rw[B7 _ _ _ _ _ hi,if_neg (by omega),if_neg (by omega)]
theorem Hb (a b n lo hi:Nat) (h1:lo<=a) (h2:b+n<=hi):∀ (k i:Nat) (d:Array α),n - i<=k->a+n<=b->hi<=d.size->PermIn lo hi d (Cf a b n i d)
 | 0,i,d,h,hab,hs=>by rw[B7 _ _ _ _ _ (by omega)];exact permIn_refl _ _ _
 | k+1,i,d,h,hab,hs=>by
  by_cases hi':i<n
  ·rw[ED _ _ _ _ _ hi'];exact permIn_trans _ _ _ _ _ (swp_permIn d lo hi (a+i) (b+i) (by omega) (by omega) (by omega) (by omega) hs) (Hb a b n lo hi h1 h2 k (i+1) _ (by omega) hab (by rw[size_swp];exact hs))
  ·rw[B7 _ _ _ _ _ hi'];exact permIn_refl _ _ _
theorem J0 {a b n:Nat} {d:Array α} (hab:a+n<=b) (hb:b+n<=d.size) (t:Nat):
  (DX a b n d)[t]! =if a<=t/\t<a+n then d[b+(t - a)]! else if b<=t/\t<b+n then d[a+(t - b)]! else d[t]! :=by
 have:=IK a b n n 0 d (by omega) hab hb t;simpa[DX] using this
theorem HO {a b n lo hi:Nat} (h1:lo<=a) (h2:b+n<=hi) (d:Array α) (hab:a+n<=b) (hs:hi<=d.size):PermIn lo hi d (DX a b n d):=
 Hb a b n lo hi h1 h2 n 0 d (by omega) hab hs
def AH (m i j:Nat) (d:Array α):Array α:=
 if h:i=0\/j=0 then d else
  if i=j then DX (m - i) m i d else
   if j<i then AH m (i - j) j (DX (m - i) m j d) else AH m i (j - i) (DX (m - i) (m+j - i) i d)
termination_by i+j
theorem Mt {m i:Nat} {d:Array α} (h:0<i):AH m i i d=DX (m - i) m i d:=by rw[AH,dif_neg (by omega),if_pos rfl]
theorem L5 {m i j:Nat} {d:Array α} (h:0<j) (h2:j<i):AH m i j d=AH m (i - j) j (DX (m - i) m j d):=by
 conv=>lhs;rw[AH,dif_neg (by omega),if_neg (by omega),if_pos h2]
theorem Ma {m i j:Nat} {d:Array α} (h:0<i) (h2:i<j):AH m i j d=AH m i (j - i) (DX (m - i) (m+j - i) i d):=by
 conv=>lhs;rw[AH,dif_neg (by omega),if_neg (by omega),if_neg (by omega)]
theorem Fm (m:Nat):∀ (k i j:Nat) (d:Array α),i+j<=k->0<i->0<j->i<=m->m+j<=d.size→
  (AH m i j d).size=d.size/\(∀ t,(AH m i j d)[t]! =if m - i<=t/\t<m - i+j then d[t+i]! else if m - i+j<=t/\t<m+j then d[t - j]! else d[t]!)/\∀ lo hi,lo<=m - i->m+j<=hi->hi<=d.size->PermIn lo hi d (AH m i j d)
 | 0,i,j,d,h,hi,hj,him,hs=>by omega
 | k+1,i,j,d,h,hi,hj,him,hs=>by
  rcases Nat.lt_trichotomy i j with c | c | c
  ·rw[Ma hi c];have hsz:=Ez (m - i) (m+j - i) i d;obtain⟨r1,r2,r3⟩:=Fm m k i (j - i) (DX (m - i) (m+j - i) i d) (by omega) hi (by omega) him (by rw[hsz];omega);have g:=fun t=>J0 (a:=m - i) (b:=m+j - i) (n:=i) (d:=d) (by omega) (by omega) t;refine⟨by rw[r1,hsz],fun t=>?_,fun lo hi' l1 l2 l3=>permIn_trans _ _ _ _ _ (HO l1 (by omega) d (by omega) l3) (r3 lo hi' l1 (by omega) (by rw[hsz];exact l3))⟩;rw[r2 t];by_cases c1:m - i<=t/\t<m - i+(j - i)
   ·rw[if_pos c1,if_pos (by omega),g,if_neg (by omega),if_neg (by omega)]
   ·rw[if_neg c1];by_cases c2:m - i+(j - i)<=t/\t<m+(j - i)
    ·rw[if_pos c2,if_pos (by omega),g,if_pos (by omega)];congr 1;omega
    ·rw[if_neg c2,g];by_cases c3:m - i<=t/\t<m - i+i
     ·omega
     ·rw[if_neg c3];by_cases c4:m+j - i<=t/\t<m+j - i+i
      ·rw[if_pos c4,if_neg (by omega),if_pos (by omega)];congr 1;omega
      ·rw[if_neg c4,if_neg (by omega),if_neg (by omega)]
  ·subst c;rw[Mt hi];have g:=fun t=>J0 (a:=m - i) (b:=m) (n:=i) (d:=d) (by omega) (by omega) t;refine⟨Ez _ _ _ _,fun t=>?_,fun lo hi' l1 l2 l3=>HO l1 l2 d (by omega) l3⟩;rw[g];by_cases c1:m - i<=t/\t<m - i+i
   ·rw[if_pos c1,if_pos c1];congr 1;omega
   ·rw[if_neg c1,if_neg c1];by_cases c2:m<=t/\t<m+i
    ·rw[if_pos c2,if_pos (by omega)];congr 1;omega
    ·rw[if_neg c2,if_neg (by omega)]
  ·rw[L5 hj c];have hsz:=Ez (m - i) m j d;obtain⟨r1,r2,r3⟩:=Fm m k (i - j) j (DX (m - i) m j d) (by omega) (by omega) hj (by omega) (by rw[hsz];omega);have g:=fun t=>J0 (a:=m - i) (b:=m) (n:=j) (d:=d) (by omega) (by omega) t;refine⟨by rw[r1,hsz],fun t=>?_,fun lo hi' l1 l2 l3=>permIn_trans _ _ _ _ _ (HO l1 l2 d (by omega) l3) (r3 lo hi' (by omega) l2 (by rw[hsz];exact l3))⟩;rw[r2 t];by_cases c1:m - (i - j)<=t/\t<m - (i - j)+j
   ·rw[if_pos c1,g];by_cases c0:t+(i - j)<m
    ·rw[if_neg (by omega),if_neg (by omega)];rw[if_neg (by omega),if_pos (by omega)];omega
    ·rw[if_neg (by omega),if_pos (by omega),if_neg (by omega),if_pos (by omega)];congr 1;omega
   ·rw[if_neg c1];by_cases c2:m - (i - j)+j<=t/\t<m+j
    ·rw[if_pos c2,g,if_neg (by omega)];by_cases c0:m<=t - j/\t - j<m+j
     ·rw[if_pos c0];omega
     ·rw[if_neg c0,if_neg (by omega),if_pos (by omega)]
    ·rw[if_neg c2,g];by_cases c3:m - i<=t/\t<m - i+j
     ·rw[if_pos c3,if_pos (by omega)];congr 1;omega
     ·rw[if_neg c3];by_cases c4:m<=t/\t<m+j
      ·omega
      ·rw[if_neg c4,if_neg (by omega),if_neg (by omega)]
def AO (p:Nat->Bool) (i j:Nat):Nat:=if i<j then (if p ((i+j) / 2) then AO p ((i+j) / 2+1) j else AO p i ((i+j) / 2)) else i
termination_by j - i
theorem GJ {p:Nat->Bool} {i j:Nat} (h:i<j) (hp:p ((i+j) / 2)=true):AO p i j=AO p ((i+j) / 2+1) j:=by
 conv=>lhs;rw[AO,if_pos h,if_pos hp]
theorem EC {p:Nat->Bool} {i j:Nat} (h:i<j) (hp:p ((i+j) / 2)=false):AO p i j=AO p i ((i+j) / 2):=by
 conv=>lhs;rw[AO,if_pos h,if_neg (by rw[hp];decide)]
theorem DJ {p:Nat->Bool} {i j:Nat} (h:¬i<j):AO p i j=i:=by rw[AO,if_neg h]
theorem DL (p:Nat->Bool) (lo hi:Nat) (hmono:∀ x y,lo<=x->x<y->y<hi->p y=true->p x=true):∀ (k i j:Nat),j - i<=k->lo<=i->i<=j->j<=hi→
  (∀ t,lo<=t->t<i->p t=true)->(∀ t,j<=t->t<hi->p t=false)→
  lo<=AO p i j/\AO p i j<=hi/\(∀ t,lo<=t->t<AO p i j->p t=true)/\(∀ t,AO p i j<=t->t<hi->p t=false)
 | 0,i,j,h,hlo,hij,hhi,h1,h2=>by
  rw[DJ (by omega)];exact⟨hlo,by omega,h1,fun t ht hth=>h2 t (by omega) hth⟩
 | k+1,i,j,h,hlo,hij,hhi,h1,h2=>by
  by_cases c:i<j
  ·cases hp:p ((i+j) / 2) with
   | true=>
    rw[GJ c hp];refine DL p lo hi hmono k _ j (by omega) (by omega) (by omega) hhi (fun t ht hth=>?_) h2;by_cases e:t=(i+j) / 2
    ·rw[e];exact hp
    ·exact hmono t _ ht (by omega) (by omega) hp
   | false=>
    rw[EC c hp];refine DL p lo hi hmono k i _ (by omega) hlo (by omega) (by omega) h1 (fun t ht hth=>?_);by_cases e:t=(i+j) / 2
    ·rw[e];exact hp
    ·cases hq:p t with
     | false=>rfl
     | true=>rw[hmono _ t (by omega) (by omega) hth hq] at hp;cases hp
  ·rw[DJ c];exact⟨hlo,by omega,h1,fun t ht hth=>h2 t (by omega) hth⟩
def K3 (e k:Nat) (d:Array α):Array α:=if k<e then K3 e (k+1) (swp d k (k+1)) else d
termination_by e - k
theorem UD {e k:Nat} {d:Array α} (h:k<e):K3 e k d=K3 e (k+1) (swp d k (k+1)):=by rw[K3,if_pos h]
theorem GG {e k:Nat} {d:Array α} (h:¬k<e):K3 e k d=d:=by rw[K3,if_neg h]
theorem Nv (e lo hi:Nat) (he:e<hi):∀ (n k:Nat) (d:Array α),e - k<=n->lo<=k->k<=e->hi<=d.size→
  PermIn lo hi d (K3 e k d)/\∀ t,(K3 e k d)[t]! =if k<=t/\t<e then d[t+1]! else if t=e then d[k]! else d[t]!
 | 0,k,d,h,hlo,hk,hs=>by
  rw[GG (by omega)];refine⟨permIn_refl _ _ _,fun t=>?_⟩;rw[if_neg (by omega)];by_cases c:t=e
  ·rw[if_pos c];congr 1;omega
  ·rw[if_neg c]
 | n+1,k,d,h,hlo,hk,hs=>by
  by_cases c:k<e
  ·rw[UD c];obtain⟨r1,r2⟩:=Nv e lo hi he n (k+1) (swp d k (k+1)) (by omega) (by omega) (by omega) (by rw[size_swp];exact hs);refine⟨permIn_trans _ _ _ _ _ (swp_permIn d lo hi k (k+1) hlo (by omega) (by omega) (by omega) hs) r1,fun t=>?_⟩;have g:=swp_get d (show k<d.size by omega) (show k+1<d.size by omega);rw[r2 t];by_cases c1:k+1<=t/\t<e
   ·rw[if_pos c1,if_pos (by omega),g,if_neg (by omega),if_neg (by omega)]
   ·rw[if_neg c1];by_cases c2:t=e
    ·rw[if_pos c2,if_neg (by omega),if_pos c2,g,if_pos rfl]
    ·rw[if_neg c2,g];by_cases c3:t=k
     ·rw[if_neg (by omega),if_pos c3,if_pos (by omega)];congr 1;omega
     ·rw[if_neg (by omega),if_neg c3,if_neg (by omega),if_neg c2]
  ·rw[GG c];refine⟨permIn_refl _ _ _,fun t=>?_⟩;rw[if_neg (by omega)];by_cases c:t=e
   ·rw[if_pos c];congr 1;omega
   ·rw[if_neg c]
def DR (i:Nat):Nat->Array α->Array α
 | 0,d=>d
 | k+1,d=>if i<k+1 then DR i k (swp d (k+1) k) else d
theorem NW {i k:Nat} {d:Array α} (h:i<k+1):DR i (k+1) d=DR i k (swp d (k+1) k):=by rw[DR,if_pos h]
theorem Ku {i k:Nat} {d:Array α} (h:¬i<k):DR i k d=d:=by
 cases k with
 | zero=>rfl
 | succ k=>rw[DR,if_neg h]
theorem JZ (i lo hi:Nat) (hi':lo<=i):∀ (k:Nat) (d:Array α),k<hi->i<=k->hi<=d.size→
  PermIn lo hi d (DR i k d)/\∀ t,(DR i k d)[t]! =if i<t/\t<=k then d[t - 1]! else if t=i then d[k]! else d[t]!
 | 0,d,hk,hik,hs=>by
  refine⟨permIn_refl _ _ _,fun t=>?_⟩;rw[if_neg (by omega)];by_cases c:t=i
  ·rw[if_pos c];show d[t]! =_;congr 1;omega
  ·rw[if_neg c];rfl
 | k+1,d,hk,hik,hs=>by
  by_cases c:i<k+1
  ·rw[NW c];obtain⟨r1,r2⟩:=JZ i lo hi hi' k (swp d (k+1) k) (by omega) (by omega) (by rw[size_swp];exact hs);refine⟨permIn_trans _ _ _ _ _ (swp_permIn d lo hi (k+1) k (by omega) (by omega) (by omega) (by omega) hs) r1,fun t=>?_⟩;have g:=swp_get d (show k+1<d.size by omega) (show k<d.size by omega);rw[r2 t];by_cases c1:i<t/\t<=k
   ·rw[if_pos c1,if_pos (by omega),g,if_neg (by omega),if_neg (by omega)]
   ·rw[if_neg c1];by_cases c2:t=i
    ·rw[if_pos c2,if_neg (by omega),if_pos c2,g,if_pos rfl]
    ·rw[if_neg c2,g];by_cases c3:t=k+1
     ·rw[if_neg (by omega),if_pos c3,if_pos (by omega)];congr 1;omega
     ·rw[if_neg (by omega),if_neg c3,if_neg (by omega),if_neg c2]
  ·rw[Ku c];refine⟨permIn_refl _ _ _,fun t=>?_⟩;rw[if_neg (by omega)];by_cases c2:t=i
   ·rw[if_pos c2];congr 1;omega
   ·rw[if_neg c2]
variable {lt:α->α->Bool}
theorem Eq (hS:SWO lt) {a b:Nat} {d:Array α} (h:SortedIn lt a b d) {i j:Nat} (hi:a<=i) (hij:i<=j) (hj:j<b):lt d[j]! d[i]! =false:=by
 rcases Nat.lt_or_eq_of_le hij with c | c
 ·exact h i j hi c hj
 ·subst c;exact hS.irrefl _
theorem Aah (hS:SWO lt) {a b:Nat} {d:Array α} (hab:a+1<=b) (hb:b<=d.size) (hs:SortedIn lt (a+1) b d):
  PermIn a b d (K3 (AO (fun h=>lt d[h]! d[a]!) (a+1) b - 1) a d)/\SortedIn lt a b (K3 (AO (fun h=>lt d[h]! d[a]!) (a+1) b - 1) a d):=by
 obtain⟨h1,h2,h3,h4⟩:=DL (fun h=>lt d[h]! d[a]!) (a+1) b (fun x y hx hxy hy hp=>by
  cases hq:lt d[x]! d[a]! with
  | true=>rfl
  | false=>
   have:=hS.ntrans _ _ _ (hs x y hx hxy hy) hq;rw[this] at hp;cases hp) (b - (a+1)) (a+1) b Nr Nr hab Nr (fun t h1 h2=>by omega) (fun t h1 h2=>by omega)
 generalize AO (fun h=>lt d[h]! d[a]!) (a+1) b=s at h1 h2 h3 h4;by_cases hb0:a+1=b
 ·have:s - 1=a:=by omega
  rw[this,GG (by omega)];exact⟨permIn_refl _ _ _,fun i j hi hij hj=>by omega⟩
 obtain⟨r1,r2⟩:=Nv (s - 1) a b (by omega) (s - 1 - a) a d Nr Nr (by omega) hb;refine⟨r1,fun i j hi hij hj=>?_⟩;rw[r2 j,r2 i];by_cases cj:j<s - 1
 ·rw[if_pos (by omega),if_pos (by omega)];exact hs _ _ (by omega) (by omega) (by omega)
 ·rw[if_neg (by omega)];by_cases cj2:j=s - 1
  ·rw[if_pos cj2,if_pos (by omega)];exact hS.asymmA (h3 (i+1) (by omega) (by omega))
  ·rw[if_neg cj2];by_cases ci:i<s - 1
   ·rw[if_pos (by omega)];exact hs _ _ (by omega) (by omega) (by omega)
   ·rw[if_neg (by omega)];by_cases ci2:i=s - 1
    ·rw[if_pos ci2];exact h4 j (by omega) hj
    ·rw[if_neg ci2];exact hs _ _ (by omega) hij hj
theorem XQ (hS:SWO lt) {a m:Nat} {d:Array α} (ham:a<=m) (hb:m+1<=d.size) (hs:SortedIn lt a m d):
  PermIn a (m+1) d (DR (AO (fun h=> !lt d[m]! d[h]!) a m) m d)/\SortedIn lt a (m+1) (DR (AO (fun h=> !lt d[m]! d[h]!) a m) m d):=by
 obtain⟨h1,h2,h3,h4⟩:=DL (fun h=> !lt d[m]! d[h]!) a m (fun x y hx hxy hy hp=>by
  have hp':lt d[m]! d[y]! =false:=by simpa using hp
  have:=hS.ntrans _ _ _ hp' (hs x y hx hxy hy);show(!lt d[m]! d[x]!)=true;rw[this];rfl) (m - a) a m Nr Nr ham Nr (fun t h1 h2=>by omega) (fun t h1 h2=>by omega)
 generalize AO (fun h=> !lt d[m]! d[h]!) a m=s at h1 h2 h3 h4;obtain⟨r1,r2⟩:=JZ s a (m+1) h1 m d (by omega) h2 hb;refine⟨r1,fun i j hi hij hj=>?_⟩;have h3':∀ t,a<=t->t<s->lt d[m]! d[t]! =false:=fun t ht hts=>by simpa using h3 t ht hts
 have h4':∀ t,s<=t->t<m->lt d[m]! d[t]! =true:=fun t ht hts=>by simpa using h4 t ht hts
 rw[r2 j,r2 i];by_cases cj:s<j
 ·rw[if_pos (by omega)];by_cases ci:s<i
  ·rw[if_pos (by omega)];exact hs _ _ (by omega) (by omega) (by omega)
  ·rw[if_neg (by omega)];by_cases ci2:i=s
   ·rw[if_pos ci2];exact hS.asymmA (h4' (j - 1) (by omega) (by omega))
   ·rw[if_neg ci2];exact hs _ _ (by omega) (by omega) (by omega)
 ·rw[if_neg (by omega)];by_cases cj2:j=s
  ·rw[if_pos cj2,if_neg (by omega),if_neg (by omega)];exact h3' i hi (by omega)
  ·rw[if_neg cj2,if_neg (by omega),if_neg (by omega)];exact hs _ _ hi hij (by omega)
def Bt (a m b:Nat):Nat:=if (a+b) / 2<m then (a+b) / 2+m - b else a
def CK (a m b:Nat):Nat:=if (a+b) / 2<m then (a+b) / 2 else m
def Fd (lt:α->α->Bool) (a m b:Nat) (d:Array α):Nat:=AO (fun c=> !lt d[(a+b) / 2+m - 1 - c]! d[c]!) (Bt a m b) (CK a m b)
structure Aft (lt:α->α->Bool) (a s mid e b:Nat) (d d1:Array α):Prop where
 perm:PermIn a b d d1
 s1:SortedIn lt a s d1
 s2:SortedIn lt s mid d1
 s3:SortedIn lt mid e d1
 s4:SortedIn lt e b d1
 low:∀ t u,a<=t->t<mid->mid<=u->u<b->lt d1[u]! d1[t]! =false
theorem WO (hS:SWO lt) {a m b:Nat} {d:Array α} (ham:a<m) (hmb:m<b) (hb:b<=d.size) (hl:SortedIn lt a m d) (hr:SortedIn lt m b d):
  a<=Fd lt a m b d/\Fd lt a m b d<=m/\Fd lt a m b d<=(a+b) / 2/\(a+b) / 2<=(a+b) / 2+m - Fd lt a m b d/\m<=(a+b) / 2+m - Fd lt a m b d/\(a+b) / 2+m - Fd lt a m b d<=b∧
  Aft lt a (Fd lt a m b d) ((a+b) / 2) ((a+b) / 2+m - Fd lt a m b d) b d (AH m (m - Fd lt a m b d) ((a+b) / 2+m - Fd lt a m b d - m) d):=by
 have hmid:a<=(a+b) / 2/\(a+b) / 2<b:=by omega
 have hse:a<=Bt a m b/\Bt a m b<=CK a m b/\CK a m b<=m/\CK a m b<=(a+b) / 2/\(a+b) / 2+m<=b+Bt a m b:=by
  unfold Bt CK;by_cases c:(a+b) / 2<m
  ·rw[if_pos c,if_pos c];omega
  ·rw[if_neg c,if_neg c];omega
 have hs0:Bt a m b=a\/Bt a m b+b=(a+b) / 2+m:=by
  unfold Bt;by_cases c:(a+b) / 2<m
  ·rw[if_pos c];omega
  ·rw[if_neg c];omega
 have he0:CK a m b=m\/CK a m b=(a+b) / 2:=by
  unfold CK;by_cases c:(a+b) / 2<m
  ·rw[if_pos c];omega
  ·rw[if_neg c];omega
 unfold Fd;generalize Bt a m b=s0 at hse hs0 |-;generalize CK a m b=e0 at hse he0 |-;generalize hmm:(a+b) / 2=mid at*
 obtain⟨h1,h2,h3,h4⟩:=DL (fun c=> !lt d[mid+m - 1 - c]! d[c]!) s0 e0 (fun x y hx hxy hy hp=>by
  have hp':lt d[mid+m - 1 - y]! d[y]! =false:=by simpa using hp
  show(!lt d[mid+m - 1 - x]! d[x]!)=true;have a1:=hS.ntrans _ _ _ hp' (hl x y (by omega) hxy (by omega));have a2:=hS.ntrans _ _ _ (hr (mid+m - 1 - y) (mid+m - 1 - x) (by omega) (by omega) (by omega)) a1;rw[a2];rfl) (e0 - s0) s0 e0 Nr Nr (by omega) Nr (fun t h1 h2=>by omega) (fun t h1 h2=>by omega)
 generalize AO (fun c=> !lt d[mid+m - 1 - c]! d[c]!) s0 e0=s at h1 h2 h3 h4;have h3':∀ t,s0<=t->t<s->lt d[mid+m - 1 - t]! d[t]! =false:=fun t ht hts=>by simpa using h3 t ht hts
 have h4':∀ t,s<=t->t<e0->lt d[mid+m - 1 - t]! d[t]! =true:=fun t ht hts=>by simpa using h4 t ht hts
 refine⟨by omega,by omega,by omega,by omega,by omega,by omega,?_⟩;have key:PermIn a b d (AH m (m - s) (mid+m - s - m) d)/\∀ t,(AH m (m - s) (mid+m - s - m) d)[t]! =if s<=t/\t<mid then d[t+(m - s)]! else if mid<=t/\t<mid+m - s then d[t - (mid - s)]! else d[t]! :=by
  by_cases c:0<m - s/\0<mid+m - s - m
  ·obtain⟨_,r2,r3⟩:=Fm m (m - s+(mid+m - s - m)) (m - s) (mid+m - s - m) d Nr c.1 c.2 (by omega) (by omega);refine⟨r3 a b (by omega) (by omega) hb,fun t=>?_⟩;rw[r2];by_cases c1:s<=t/\t<mid
   ·rw[if_pos (by omega),if_pos c1]
   ·rw[if_neg (by omega),if_neg c1];by_cases c2:mid<=t/\t<mid+m - s
    ·rw[if_pos (by omega),if_pos c2];congr 1;omega
    ·rw[if_neg (by omega),if_neg c2]
  ·have:AH m (m - s) (mid+m - s - m) d=d:=by rw[AH,dif_pos (by omega)]
   rw[this];refine⟨permIn_refl _ _ _,fun t=>?_⟩;by_cases c1:s<=t/\t<mid
   ·rw[if_pos c1];congr 1;omega
   ·rw[if_neg c1];by_cases c2:mid<=t/\t<mid+m - s
    ·rw[if_pos c2];congr 1;omega
    ·rw[if_neg c2]
 obtain⟨hp,g⟩:=key;generalize AH m (m - s) (mid+m - s - m) d=d1 at hp g |-;have g1:∀ t,t<s->d1[t]! =d[t]! :=fun t ht=>by rw[g,if_neg (by omega),if_neg (by omega)]
 have g2:∀ t,s<=t->t<mid->d1[t]! =d[t+(m - s)]! :=fun t h h'=>by rw[g,if_pos ⟨h,h'⟩]
 have g3:∀ t,mid<=t->t<mid+m - s->d1[t]! =d[t - (mid - s)]! :=fun t h h'=>by rw[g,if_neg (by omega),if_pos ⟨h,h'⟩]
 have g4:∀ t,mid+m - s<=t->d1[t]! =d[t]! :=fun t h=>by rw[g,if_neg (by omega),if_neg (by omega)]
 refine⟨hp,fun i j hi hij hj=>?_,fun i j hi hij hj=>?_,fun i j hi hij hj=>?_,fun i j hi hij hj=>?_,fun t u ht htm hu hub=>?_⟩
 ·rw[g1 i (by omega),g1 j hj];exact hl i j hi hij (by omega)
 ·rw[g2 i hi (by omega),g2 j (by omega) hj];exact hr _ _ (by omega) (by omega) (by omega)
 ·rw[g3 i hi (by omega),g3 j (by omega) hj];exact hl _ _ (by omega) (by omega) (by omega)
 ·rw[g4 i hi,g4 j (by omega)];exact hr _ _ (by omega) hij hj
 ·by_cases ct:t<s
  ·rw[g1 t ct];by_cases cu:u<mid+m - s
   ·rw[g3 u hu cu];exact Eq hS hl ht (by omega) (by omega)
   ·rw[g4 u (by omega)];have hs1:s0<s\/s0=s:=by omega
    rcases hs1 with hs1 | hs1
    ·have k1:=h3' (s - 1) (by omega) (by omega);have k2:=Eq hS hl (i:=t) (j:=s - 1) ht (by omega) (by omega);have k3:=Eq hS hr (i:=mid+m - 1 - (s - 1)) (j:=u) (by omega) (by omega) hub;exact hS.ntrans _ _ _ k3 (hS.ntrans _ _ _ k1 k2)
    ·omega
  ·rw[g2 t (by omega) htm];by_cases cu:u<mid+m - s
   ·rw[g3 u hu cu];have k1:=h4' s Nr (by omega);have k2:=Eq hS hr (i:=t+(m - s)) (j:=mid+m - 1 - s) (by omega) (by omega) (by omega);have k3:=Eq hS hl (i:=s) (j:=u - (mid - s)) (by omega) (by omega) (by omega);exact hS.ntrans _ _ _ k3 (hS.ntrans _ _ _ (hS.asymmA k1) k2)
   ·rw[g4 u (by omega)];exact Eq hS hr (by omega) (by omega) hub
theorem I6 {a b:Nat} {d d':Array α} (h:PermIn a b d d') {t:Nat} (ht:t<a\/b<=t):d'[t]! =d[t]! :=h.2.1 t ht
theorem Zj (hS:SWO lt) {a s mid e b:Nat} {d d1 d2 d3:Array α} (hb:b<=d.size) (h1:a<=s) (h2:s<=mid) (h3:mid<=e) (h4:e<=b) (hA:a<=mid) (hB:mid<=b) (X:Aft lt a s mid e b d d1)
  (p1:PermIn a mid d1 d2) (o1:SortedIn lt a mid d2) (p2:PermIn mid b d2 d3) (o2:SortedIn lt mid b d3):PermIn a b d d3/\SortedIn lt a b d3:=by
 have z1:d1.size=d.size:=X.perm.1;have z2:d2.size=d1.size:=p1.1;refine⟨permIn_trans _ _ _ _ _ X.perm (permIn_trans _ _ _ _ _ (permIn_mono d1 d2 a mid a b Nr hB (by omega) p1) (permIn_mono d2 d3 mid b a b hA Nr (by omega) p2)),fun i j hi hij hj=>?_⟩;by_cases cj:j<mid
 ·rw[I6 p2 (.inl cj),I6 p2 (t:=i) (.inl (by omega))];exact o1 i j hi hij cj
 ·by_cases ci:i<mid
  ·rw[I6 p2 (t:=i) (.inl ci)];have low2:∀ t,a<=t->t<mid->∀ u,mid<=u->u<b->lt d2[u]! d2[t]! =false:=by
    refine permIn_all d1 d2 a mid (fun x=>∀ u,mid<=u->u<b->lt d2[u]! x=false) (by omega) p1 (fun t ht htm u hu hub=>?_);rw[I6 p1 (.inr hu)];exact X.low t u ht htm hu hub
   exact permIn_all d2 d3 mid b (fun x=>lt x d2[i]! =false) (by omega) p2 (fun u hu hub=>low2 i hi ci u hu hub) j (by omega) hj
  ·exact o2 i j (by omega) hij hj
theorem CF {a s mid:Nat} {d:Array α} (h1:SortedIn lt a s d) (h2:SortedIn lt s mid d) (hc:¬(a<s/\s<mid)) (ha:a<=s) (hs:s<=mid):SortedIn lt a mid d:=by
 by_cases c:a=s
 ·subst c;exact h2
 ·have:s=mid:=by omega
  subst this;exact h1
def Ci (lt:α->α->Bool) (bs lo hi:Nat) (d:Array α):Prop:=∀ i j,lo<=i->i<j->j<hi->i / bs=j / bs->lt d[j]! d[i]! =false
theorem DK {bs a b q:Nat} {d d':Array α} (hbs:0<bs) (h:Ci lt bs 0 a d) (hp:PermIn a b d d') (hs:SortedIn lt a b d') (ha:a=bs*q):Ci lt bs 0 b d':=by
 intro i j hi hij hj he;by_cases c:j<a
 ·rw[hp.2.1 i (.inl (by omega)),hp.2.1 j (.inl c)];exact h i j hi hij c he
 ·refine hs i j ?_ hij hj;have h1:q<=j / bs:=(Nat.le_div_iff_mul_le hbs).2 (by rw[Nat.mul_comm];omega);rw[<- he] at h1;have h2:=(Nat.le_div_iff_mul_le hbs).1 h1;rw[Nat.mul_comm] at h2;omega
theorem C4 {bs lo hi x y q:Nat} {d:Array α} (hbs:0<bs) (h:Ci lt bs lo hi d) (h1:lo<=x) (h2:y<=hi) (hx:x=bs*q) (hy:y<=x+bs):SortedIn lt x y d:=by
 intro i j hi' hij hj;have key:∀ t,x<=t->t<y->t / bs=q:=fun t ht hty=>by
  refine Nat.div_eq_of_lt_le (by rw[Nat.mul_comm];omega) ?_;rw[Nat.mul_comm,Nat.mul_add,Nat.mul_one];omega
 exact h i j (by omega) hij (by omega) (by rw[key i hi' (by omega),key j (by omega) hj])
theorem R6 {bs lo hi a b lo':Nat} {d d':Array α} (h:Ci lt bs lo hi d) (hp:PermIn a b d d') (h1:b<=lo') (h2:lo<=lo'):Ci lt bs lo' hi d':=by
 intro i j hi' hij hj he;rw[hp.2.1 i (.inr (by omega)),hp.2.1 j (.inr (by omega))];exact h i j (by omega) hij hj he
theorem Kr {bs hi:Nat} {d:Array α}:Ci lt bs 0 0 d:=fun i j _ _ h _=>absurd h (Nat.not_lt_zero _)
theorem Um {bs n:Nat} {d:Array α} (h:Ci lt bs 0 n d) (hn:n<=bs):SortedIn lt 0 n d:=fun i j hi hij hj=>h i j hi hij hj (by rw[Nat.div_eq_of_lt (by omega),Nat.div_eq_of_lt (by omega)])
end
section
open Go Go.Shelf Go.RowKit Go.Lib Go.Sort
variable {P:Program} {k:Nat} {α:Type} [Inhabited α]
variable {P:Program} {k:Nat} {α:Type} [Inhabited α]
end
section
open Go Go.Shelf Go.RowKit Go.Lib Go.Sort
variable {P:Program} {k:Nat} {α:Type} [Inhabited α]
end
section
set_option maxRecDepth 100000
set_option maxHeartbeats 2000000
open Go Go.Shelf Go.RowKit Go.Lib Go.Sort
variable {P:Program} {k:Nat} {α:Type} [Inhabited α]
open Go Go.RowKit Go.Lib Go.Sort
theorem Dz (a:Int) (w:Y):Calls Tryz.prog 246 #[I J a] w fun e w'=>e=.returned (.bool false)/\w'=w:=by
 go_enter Tryz.func246,Tryz.ntmps246;go_wp2;go_ret;exact⟨by simp,rfl⟩
theorem Dw (a:ByteArray) (w:Y):Calls Tryz.prog 247 #[Q a] w fun e w'=>e=.returned (.bool false)/\w'=w:=by
 go_enter Tryz.func247,Tryz.ntmps247;go_wp2;go_ret;exact⟨by simp,rfl⟩
theorem ZX (a b:Int) (w:Y):Calls Tryz.prog 219 #[I J a,I J b] w fun e w'=>e=.returned (I J (J3 a b))/\w'=w:=by
 unfold J3;rcases Int.lt_trichotomy a b with h | h | h
 ·rw[if_pos h];go_enter Tryz.func219,Tryz.ntmps219;go_wp2_with fail;refine(Dz _ _).mono ?_;rintro e w1 ⟨rfl,rfl⟩;go_wp2_with fail;refine(Dz _ _).mono ?_;rintro e w1 ⟨rfl,rfl⟩;go_wp2;go_ret;exact⟨rfl,rfl⟩
 ·subst h;have h1:¬a<a:=by omega
  rw[if_neg h1,if_neg h1];go_enter Tryz.func219,Tryz.ntmps219;go_wp2_with fail;refine(Dz _ _).mono ?_;rintro e w1 ⟨rfl,rfl⟩;go_wp2_with fail;refine(Dz _ _).mono ?_;rintro e w1 ⟨rfl,rfl⟩;go_wp2;go_ret;exact⟨rfl,rfl⟩
 ·have h1:¬a<b:=by omega
  rw[if_neg h1,if_pos h];go_enter Tryz.func219,Tryz.ntmps219;go_wp2_with fail;refine(Dz _ _).mono ?_;rintro e w1 ⟨rfl,rfl⟩;go_wp2_with fail;refine(Dz _ _).mono ?_;rintro e w1 ⟨rfl,rfl⟩;go_wp2;go_ret;exact⟨rfl,rfl⟩
theorem Aa8 (s t:ByteArray) (w:Y):Calls Tryz.prog 220 #[Q s,Q t] w fun e w'=>e=.returned (I J (cmpL s.data.toList t.data.toList))/\w'=w:=by
 have hl1:=TK s.data.toList t.data.toList;have hl2:=TK t.data.toList s.data.toList;have hsym:=OG.sym s.data.toList t.data.toList;have hr:=OG.rng s.data.toList t.data.toList;have heq:=OG.eq s.data.toList t.data.toList;obtain⟨z,hz⟩:∃ z,cmpL s.data.toList t.data.toList=z:=⟨_,rfl⟩
 rw[hz] at hl1 hsym hr heq |-;rw[hsym] at hl2;clear hsym hz;rw[<- Lib.toList_data s,<- Lib.toList_data t] at hl1 hl2 heq;rcases hr with rfl | rfl | rfl
 ·have e1:Op.bytesLess s.toList t.toList=true:=hl1;have e2:Op.bytesLess t.toList s.toList=false:=hl2;have e3:(s.toList==t.toList)=false:=by rw[beq_eq_false_iff_ne];intro h;exact absurd (heq.2 h) (by decide)
  have e4:(t.toList==s.toList)=false:=by rw[beq_eq_false_iff_ne];intro h;exact absurd (heq.2 h.symm) (by decide)
  clear hl1 hl2 heq;go_enter Tryz.func220,Tryz.ntmps220;go_wp2_with fail;refine(Dw _ _).mono ?_;rintro e w1 ⟨rfl,rfl⟩;go_wp2_with fail;refine(Dw _ _).mono ?_;rintro e w1 ⟨rfl,rfl⟩;go_wp2;go_ret;exact⟨rfl,rfl⟩
 ·have e1:Op.bytesLess s.toList t.toList=false:=hl1;have e2:Op.bytesLess t.toList s.toList=false:=hl2;have e3:(s.toList==t.toList)=true:=by rw[beq_iff_eq];exact heq.1 rfl
  have e4:(t.toList==s.toList)=true:=by rw[beq_iff_eq];exact(heq.1 rfl).symm
  clear hl1 hl2 heq;go_enter Tryz.func220,Tryz.ntmps220;go_wp2_with fail;refine(Dw _ _).mono ?_;rintro e w1 ⟨rfl,rfl⟩;go_wp2_with fail;refine(Dw _ _).mono ?_;rintro e w1 ⟨rfl,rfl⟩;go_wp2;go_ret;exact⟨rfl,rfl⟩
 ·have e1:Op.bytesLess s.toList t.toList=false:=hl1;have e2:Op.bytesLess t.toList s.toList=true:=hl2;have e3:(s.toList==t.toList)=false:=by rw[beq_eq_false_iff_ne];intro h;exact absurd (heq.2 h) (by decide)
  have e4:(t.toList==s.toList)=false:=by rw[beq_eq_false_iff_ne];intro h;exact absurd (heq.2 h.symm) (by decide)
  clear hl1 hl2 heq;go_enter Tryz.func220,Tryz.ntmps220;go_wp2_with fail;refine(Dw _ _).mono ?_;rintro e w1 ⟨rfl,rfl⟩;go_wp2_with fail;refine(Dw _ _).mono ?_;rintro e w1 ⟨rfl,rfl⟩;go_wp2;go_ret;exact⟨rfl,rfl⟩
def orL (a b c:Int):Int:=if a=0 then (if b=0 then c else b) else a
theorem Aic (k:Nat) (a b c:Int) (w:Y) (h0:w.cell? ⟨k,0,O⟩=F (I J a)) (h1:w.cell? ⟨k,1,O⟩=F (I J b)) (h2:w.cell? ⟨k,2,O⟩=F (I J c)):
  Calls Tryz.prog 218 #[Z (F ⟨k,0,O⟩) 3 3] w fun e w'=>e=.returned (I J (orL a b c))/\w'=w:=by
 unfold orL;by_cases ha:a=0
 ·rw[if_pos ha];subst ha;by_cases hb:b=0
  ·rw[if_pos hb];subst hb;by_cases hc:c=0
   ·subst hc;go_enter Tryz.func218,Tryz.ntmps218;go_wp2;go_rounds 4;go_ret;exact⟨rfl,rfl⟩
   ·have hcz:(c==0)=false:=by rw[beq_eq_false_iff_ne];exact hc
    go_enter Tryz.func218,Tryz.ntmps218;go_wp2;go_rounds 3;go_ret;exact⟨rfl,rfl⟩
  ·rw[if_neg hb];have hbz:(b==0)=false:=by rw[beq_eq_false_iff_ne];exact hb
   go_enter Tryz.func218,Tryz.ntmps218;go_wp2;go_rounds 2;go_ret;exact⟨rfl,rfl⟩
 ·rw[if_neg ha];have haz:(a==0)=false:=by rw[beq_eq_false_iff_ne];exact ha
  go_enter Tryz.func218,Tryz.ntmps218;go_wp2;go_rounds 1;go_ret;exact⟨rfl,rfl⟩
def Gr (w W:Y):Prop:=∃ (q:Nat) (os:Array Obj),W=Sort.grow (w.drewN q) os
theorem Gr.refl (w:Y):Gr w w:=⟨0,#[],by
 show w={w with heap:=w.heap++#[],drawn:=w.drawn+0}
 simp⟩
theorem Gr.drew {w W:Y} (h:Gr w W):Gr w W.drew:=by
 obtain⟨q,os,rfl⟩:=h;exact⟨q+1,os,rfl⟩
theorem Gr.alloc {w W:Y} (h:Gr w W) (o:Obj):Gr w (W.alloc o):=by
 obtain⟨q,os,rfl⟩:=h;refine⟨q,os++#[o],?_⟩;show({w with heap:=(w.heap++os).push o,drawn:=w.drawn+q}:Y)={w with heap:=w.heap++(os++#[o]),drawn:=w.drawn+q}
 simp
theorem Gr.below {w W:Y} (h:Gr w W):Below w.heap.size w W:=by
 obtain⟨q,os,rfl⟩:=h;exact FW w q os
theorem Js (W:Y) (c:Array Value) (t:TypeId) (n j:Nat) (hn:W.heap.size=n):(W.alloc (.cells c t)).cell? ⟨n,j,O⟩=c[j]? :=by
 subst hn;have h:(W.alloc (.cells c t)).heap[W.heap.size]? =F (.cells c t):=Wn W _;unfold World.cell?;rw[h];rfl
theorem Ab5 (x y:Sc):orL (J3 x.kind y.kind) (J3 x.num y.num) (cmpL x.str.data.toList y.str.data.toList)=CM x y:=rfl
theorem PH (x y:Sc) (w:Y):
  Calls Tryz.prog 183 #[Di x,Di y] w fun e w'=>e=.returned (I J (CM x y))/\Gr w w':=by
 have he:=Af8 x y;have hor:=Ab5 x y;have hz:decide (x=y)=true->CM x y=0:=fun h=>(AP.eq x y).2 (of_decide_eq_true h);obtain⟨z,hzz⟩:∃ z,CM x y=z:=⟨_,rfl⟩
 rw[hzz] at hor hz |-;obtain⟨b,hb⟩:∃ b,decide (x=y)=b:=⟨_,rfl⟩
 rw[hb] at he hz;obtain⟨k1,n1,s1⟩:=x;obtain⟨k2,n2,s2⟩:=y;have hE:=fun wx=>Zk k1 n1 k2 n2 s1 s2 wx;simp only at he hor;rw[he] at hE;have HOR:=hid hor;have HZ:=hid hz;unfold Di;clear hzz hb he hz hor;cases b with
 | true=>
  go_enter Tryz.func183,Tryz.ntmps183;go_wp2;go_ret;refine⟨by rw[HZ.out trivial];rfl,?_⟩
  repeat (first | exact Gr.refl _ | refine Gr.alloc ?_ _ | refine Gr.drew ?_)
 | false=>
  go_enter Tryz.func183,Tryz.ntmps183;go_wp2;go_region_held3 (fun w'=>w'.cell? ⟨w.heap.size,0,O⟩=F (I J k1)/\w'.cell? ⟨w.heap.size,1,O⟩=F (I J n1)/\w'.cell? ⟨w.heap.size,2,O⟩=F (Q s1)/\w'.cell? ⟨w.heap.size+1,0,O⟩=F (I J k2)/\w'.cell? ⟨w.heap.size+1,1,O⟩=F (I J n2)/\w'.cell? ⟨w.heap.size+1,2,O⟩=F (Q s2)) (first | go_keep)
   (first
    | (go_at_call 219;refine(ZX _ _ _).mono ?_;rintro e wz ⟨rfl,hw⟩;subst wz)
    | (go_at_call 220;refine(Aa8 _ _ _).mono ?_;rintro e wz ⟨rfl,hw⟩;subst wz)
    | (go_at_call 218;refine(Aic _ (J3 k1 k2) (J3 n1 n2) (cmpL s1.data.toList s2.data.toList) _ (Js _ _ _ _ _ (by simp)) (Js _ _ _ _ _ (by simp)) (Js _ _ _ _ _ (by simp))).mono ?_;rintro e wz ⟨rfl,hw⟩;subst wz))
  go_wp2;go_ret;refine⟨by rw[HOR.out];rfl,?_⟩
  repeat (first | exact Gr.refl _ | refine Gr.alloc ?_ _ | refine Gr.drew ?_)
end
section
attribute [local go_sem] Oper.semAt_some
def Ho (W:Y) (A:Option Addr) (ts:List Sc) (n₀:Nat):Prop:=∀ k,k<ts.length->∃ b o:Nat,A=F ⟨b,o,O⟩/\b<n₀/\W.cell? ⟨b,o+k*3,O⟩=F (I J (ts.getD k A4).kind)/\W.cell? ⟨b,o+k*3+1,O⟩=F (I J (ts.getD k A4).num)/\W.cell? ⟨b,o+k*3+2,O⟩=F (Q (ts.getD k A4).str)
theorem Ho.keeps {p:Obj->Bool} {C:Nat->Prop} {n₀:Nat} {X Yz:Y} {A:Option Addr} {ts:List Sc} (h:Ho X A ts n₀) (hk:Ae p C n₀ X Yz):Ho Yz A ts n₀:=fun k hlt=>by
 obtain⟨b,o,ha,hb,h0,h1,h2⟩:=h k hlt;exact⟨b,o,ha,hb,hk.cell h0 (.inl hb),hk.cell h1 (.inl hb),hk.cell h2 (.inl hb)⟩
theorem Ho.below {n₀:Nat} {X Yz:Y} {A:Option Addr} {ts:List Sc} (h:Ho X A ts n₀) (hk:Below X.heap.size X Yz):Ho Yz A ts n₀:=fun k hlt=>by
 obtain⟨b,o,ha,hb,h0,h1,h2⟩:=h k hlt;exact⟨b,o,ha,hb,cell_below h0 hk,cell_below h1 hk,cell_below h2 hk⟩
theorem Ho.turn {n₀ n:Nat} {X Yz:Y} {A:Option Addr} {ts:List Sc} (h:Ho X A ts n₀) (hk:Ah (fun _=>False) n X Yz):Ho Yz A ts n₀:=fun k hlt=>by
 obtain⟨b,o,ha,hb,h0,h1,h2⟩:=h k hlt;exact⟨b,o,ha,hb,hk.cell h0 (fun f=>f),hk.cell h1 (fun f=>f),hk.cell h2 (fun f=>f)⟩
theorem Ho.of {W:Y} {v:Value} {ts:List Sc} (h:MP W v ts):∃ A cap,v=Z A ts.length cap/\Ho W A ts W.heap.size:=by
 obtain⟨A,cap,hv,hc⟩:=h;exact⟨A,cap,hv,hc⟩
def encS (x:Sc):Array Value:=#[Di x]
end
section
set_option maxRecDepth 100000
set_option maxHeartbeats 4000000
def Af1 {α:Type} (P:Program) (gf:Nat) (lb:Array Value) (encs:α->Array Value) (C K:Nat->Prop) (n₀:Nat) (xs:List α) (St:Y->Prop):Prop:=
 ∀ (l:Nat) (Jz Jx:List α->Y->Prop) (W:Y),St W->(∀ s X Yz,Jz s X->Ah C W.heap.size X Yz->Jz s Yz)->(∀ s X Yz,Jx s X->Ah C W.heap.size X Yz->Jx s Yz)→
  (∀ pre x W1,Jz pre W1->pre++[x]<+:xs->YieldAt Fence.wide 0 P l (encs x) W1 fun e W'=>
   (e=.returned (.bool true)/\Jz (pre++[x]) W'/\Ae Obj.isWalk K n₀ W1 W')\/(e=.returned (.bool false)/\Jx (pre++[x]) W'/\Ae Obj.isWalk K n₀ W1 W'))→
  Jz [] W→
  CallsIn Fence.wide 0 P gf (#[.func (.yield l) #[] #[]]++lb) W fun e W'=>(∃ v,e=.returned v)/\(Jz xs W'\/∃ pre,pre<+:xs/\Jx pre W')
def Acq {α:Type} (K:Nat->Prop) (n₀:Nat) (Iz:List α->Y->Prop) (Ix:Code->List α->Y->Prop) (s:List α) (W:Y):Exit->Act->Y->Prop
 | .normal,_,W'=>Ae Ar K n₀ W W'/\Iz s W'
 | .ret,_,W'=>Ae Ar K n₀ W W'/\Ix .ret s W'
 | .exit id,_,W'=>Ae Ar K n₀ W W'/\Ix (.exit id) s W'
 | .goto t,_,W'=>Ae Ar K n₀ W W'/\Ix (.goto t) s W'
 | .panic _,_,_=>False
 | .outgrown,_,_=>False
variable {P:Program}
theorem Mo {α:Type} {g:Operand} {ps:Array Tmp} {assign body:Code} {Qz:Exit->Act->Y->Prop} {a:Act} {w:Y}
  {gf:Nat} {lb:Array Value} (hg:a.eval g=.func (.func gf) #[] lb) (eg:∀ args w,(callFunc gf args).run P w=.ok (.enter gf args) w)
  {encs:α->Array Value} {C K:Nat->Prop} {n₀:Nat} {xs:List α} {St:Y->Prop} (hseq:Af1 P gf lb encs C K n₀ xs St)
  (hst:∀ Yz,Below w.heap.size w Yz->w.heap.size+2<=Yz.heap.size->St Yz) (hC:∀ k,C k->k<w.heap.size) (hKD:¬K w.heap.size) (hKl:¬K (w.heap.size+1)) (hn:n₀<=w.heap.size) (hps:∀ x,(encs x).size=ps.size)
  (Iz:List α->Y->Prop) (Ix:Code->List α->Y->Prop) (hI:∀ s X Yz,Iz s X->Ah C w.heap.size X Yz->Iz s Yz) (hIx:∀ c s X Yz,Ix c s X->Ah C w.heap.size X Yz->Ix c s Yz) (h0:Iz [] w)
  (hround:∀ (l:Nat) (pre:List α) (x:α) (W:Y),w.heap.size<=l->Iz pre W->pre++[x]<+:xs→
   assign.wpIn (Fence.wide.inRound l) 0 P (Exit.then (fun a' W'=>Ae Ar K n₀ W W'/\∀ Wb,Ah C w.heap.size W' Wb->(∃ r,Wb.heap[l]? =F (.loop r))->body.wpIn (Fence.wide.inRound l) 0 P (Acq K n₀ Iz Ix (pre++[x]) Wb) a' Wb) (fun _ _ _=>False))
    {tmps:=(ps.zip (encs x)).foldl (fun t (p,v)=>t.setIfInBounds p v) a.tmps,defers:=[]} W)
  (hdone:∀ (D:Nat) (W:Y),w.heap.size<=D->Iz xs W->W.heap[D]? =F (.deferred (F []))->Qz .normal {a with defers:={target:=.collected D,args:=#[]}::a.defers} W)
  (hstop:∀ (D:Nat) (c:Code) (pre:List α) (W:Y),w.heap.size<=D->pre<+:xs->Ix c pre W->W.heap[D]? =F (.deferred (F []))->c.wpIn Fence.wide 0 P Qz {a with defers:={target:=.collected D,args:=#[]}::a.defers} W):
  (Code.rangeFunc g ps assign body).wpIn Fence.wide 0 P Qz a w:=by
 refine wpIn_rangeFunc (fun fn hfn=>?_);obtain⟨rec,hrec⟩:∃ rec:LoopState->Option Code->Loop,rec=fun st pe=>{state:=st,pending:=pe,fn,tmps:=a.tmps,params:=ps,assign,body,defers:=w.heap.size}:=⟨_,rfl⟩
 obtain⟨W1,hW1⟩:∃ W1,(w.alloc (.deferred (F []))).alloc (.loop (rec .ready O))=W1:=⟨_,rfl⟩
 have hz1:W1.heap.size=w.heap.size+1+1:=by rw[<- hW1];simp
 have hL1:W1.heap[w.heap.size+1]? =F (.loop (rec .ready O)):=by
  rw[<- hW1];have:=Wn (w.alloc (.deferred (F []))) (.loop (rec .ready O));rwa [World.size_alloc] at this
 have hD1:W1.heap[w.heap.size]? =F (.deferred (F [])):=by
  rw[<- hW1];exact(Below.heap_alloc _ _ _ (by simp)).trans (Wn w _)
 have hB1:Below w.heap.size w W1:=by
  rw[<- hW1];exact((Bq _ w).alloc Nr _).alloc (by simp) _
 have hI1:Iz [] W1:=by rw[<- hW1];exact hI _ _ _ (hI _ _ _ h0 (Ah.alloc _ _)) (Ah.alloc _ _)
 have hCl:¬C (w.heap.size+1):=fun h=>by have:=hC _ h;omega
 have hCD:¬C w.heap.size:=fun h=>by have:=hC _ h;omega
 refine⟨w.heap.size+1,[{target:=.collected w.heap.size,args:=#[]}],W1,{target:=.fn (.func gf) lb,args:=#[.func (.yield (w.heap.size+1)) #[] #[]]},W1,gf,
  #[.func (.yield (w.heap.size+1)) #[] #[]]++lb,W1,?_,?_,?_,?_,fun h=>by simp[Fence.wide] at h,?_⟩
 ·rw[<- hW1,hrec];exact run_enterLoop_outer _ _ _ _ _
 ·simp only[resolve,hg]
  simp[go_sem]
 ·intro f' _;trivial
 ·simp[invoke,go_sem,eg]
 refine(hseq (w.heap.size+1)
  (fun pre W=>Iz pre W/\W.heap[w.heap.size+1]? =F (.loop (rec .ready O))/\W.heap[w.heap.size]? =F (.deferred (F [])))
  (fun pre W=>∃ c,Ix c pre W/\W.heap[w.heap.size+1]? =F (.loop (rec .done (F c)))/\W.heap[w.heap.size]? =F (.deferred (F [])))
  W1 (hst _ hB1 (by omega))
  (fun s X Yz hs ht=>⟨hI _ _ _ hs.1 (ht.mono (by omega)),ht.old hs.2.1 hCl (by omega),ht.old hs.2.2 hCD (by omega)⟩)
  (fun s X Yz hs ht=>by
   obtain⟨c,hc,hl,hk⟩:=hs;exact⟨c,hIx _ _ _ _ hc (ht.mono (by omega)),ht.old hl hCl (by omega),ht.old hk hCD (by omega)⟩)
  ?_ ⟨hI1,hL1,hD1⟩).mono ?_
 ·rintro pre x W ⟨hi,hl,hk⟩ hpre;have hy:=run_yield (P:=P) (args:=encs x) hl (by rw[hrec];exact hps x);rw[hrec] at hy;refine⟨fn,_,assign,body,hy,roundIn_of_wpIn hfn (wpIn_mono (hround _ pre x W (by omega) hi hpre) ?_)⟩;clear hy;intro e0 a' Wa he0;cases e0 with
  | normal=>?_
  | _=>exact he0.elim
  obtain⟨hka,hbd⟩:=he0;have hla:Wa.heap[w.heap.size+1]? =F (.loop (rec .ready O)):=hka.heap hl (.inr (.inr rfl));have hDa:Wa.heap[w.heap.size]? =F (.deferred (F [])):=hka.heap hk (.inr (.inr rfl));have hlt:w.heap.size+1<Wa.heap.size:=(Gl hla)
  refine⟨_,run_beginRound hla (by rw[hrec]),?_⟩;obtain⟨Wb,hWb⟩:∃ Wb,Wa.putObj (w.heap.size+1) (.loop {rec .ready O with state:=.busy})=Wb:=⟨_,rfl⟩
  have hl2:Wb.heap[w.heap.size+1]? =F (.loop {rec .ready O with state:=.busy}):=by rw[<- hWb];exact World.putObj_heap_same hlt
  have hD2:Wb.heap[w.heap.size]? =F (.deferred (F [])):=by rw[<- hWb];exact(World.putObj_heap_other (by omega)).trans hDa
  have hk2:Ae Obj.isWalk K n₀ Wa Wb:=by rw[<- hWb];exact Ae.putObj _ hla (by omega) hKl rfl
  have hta:Ah C w.heap.size Wa Wb:=by rw[<- hWb];exact Ah.putObj _ hla (by omega) rfl
  rw[hWb];refine wpIn_mono (hbd Wb hta ⟨_,hl2⟩) ?_;have fin:∀ (jump:Option Code) (W3:Y),Ae Ar K n₀ Wb W3→
    (Instr.endRound (w.heap.size+1) jump).run P W3=.ok (.bool jump.isNone) (W3.putObj (w.heap.size+1) (.loop (rec (if jump.isNone then .ready else .done) jump)))∧
    (W3.putObj (w.heap.size+1) (.loop (rec (if jump.isNone then .ready else .done) jump))).heap[w.heap.size+1]? =F (.loop (rec (if jump.isNone then .ready else .done) jump))∧
    (W3.putObj (w.heap.size+1) (.loop (rec (if jump.isNone then .ready else .done) jump))).heap[w.heap.size]? =F (.deferred (F []))∧
    Ah C w.heap.size W3 (W3.putObj (w.heap.size+1) (.loop (rec (if jump.isNone then .ready else .done) jump)))∧
    Ae Obj.isWalk K n₀ W3 (W3.putObj (w.heap.size+1) (.loop (rec (if jump.isNone then .ready else .done) jump))):=fun jump W3 hk3=>by
   have hl3:W3.heap[w.heap.size+1]? =F (.loop {rec .ready O with state:=.busy}):=hk3.heap hl2 (.inr (.inr rfl));have hD3:W3.heap[w.heap.size]? =F (.deferred (F [])):=hk3.heap hD2 (.inr (.inr rfl));have hr:=run_endRound (P:=P) jump hl3;rw[hrec] at hr |-;exact⟨hr,World.putObj_heap_same (Gl hl3),(World.putObj_heap_other (by omega)).trans hD3,Ah.putObj _ hl3 (by omega) rfl,Ae.putObj _ hl3 (by omega) hKl rfl⟩
  rintro e a3 W3 hp;cases e with
  | normal=>
   obtain⟨hr,hl4,hD4,ht4,hk4⟩:=fin O W3 hp.1;exact⟨_,_,hr,.inl ⟨rfl,⟨hI _ _ _ hp.2 ht4,hl4,hD4⟩,((hka.walks.trans hk2).trans hp.1.walks).trans hk4⟩⟩
  | ret=>
   obtain⟨hr,hl4,hD4,ht4,hk4⟩:=fin (F .ret) W3 hp.1;exact⟨_,_,hr,.inr ⟨rfl,⟨.ret,hIx _ _ _ _ hp.2 ht4,hl4,hD4⟩,((hka.walks.trans hk2).trans hp.1.walks).trans hk4⟩⟩
  | exit id=>
   obtain⟨hr,hl4,hD4,ht4,hk4⟩:=fin (F (.exit id)) W3 hp.1;exact⟨_,_,hr,.inr ⟨rfl,⟨.exit id,hIx _ _ _ _ hp.2 ht4,hl4,hD4⟩,((hka.walks.trans hk2).trans hp.1.walks).trans hk4⟩⟩
  | goto t=>
   obtain⟨hr,hl4,hD4,ht4,hk4⟩:=fin (F (.goto t)) W3 hp.1;exact⟨_,_,hr,.inr ⟨rfl,⟨.goto t,hIx _ _ _ _ hp.2 ht4,hl4,hD4⟩,((hka.walks.trans hk2).trans hp.1.walks).trans hk4⟩⟩
  | panic ch=>exact hp.elim
  | outgrown=>exact hp.elim
 ·rintro e W2 ⟨⟨v,rfl⟩,(⟨hi,hl,hk⟩ | ⟨pre,hpre,c,hi,hl,hk⟩)⟩
  ·refine⟨O,_,by have:=run_endLoop (P:=P) hl (by rw[hrec];simp);rw[hrec] at this;exact this,hdone _ _ Nr (hI _ _ _ hi (Ah.putObj _ hl (by omega) rfl)) ((World.putObj_heap_other (by omega)).trans hk)⟩
  ·refine⟨F c,_,by have:=run_endLoop (P:=P) hl (by rw[hrec];simp);rw[hrec] at this;exact this,hstop _ c pre _ Nr hpre (hIx _ _ _ _ hi (Ah.putObj _ hl (by omega) rfl)) ((World.putObj_heap_other (by omega)).trans hk)⟩
open Go Go.MapKept
section
variable {α:Type} [BEq α] {enc:α->Value} {P:Program} {k:TypeId}
 (hwide:(match P.underlying k with | some (.array _ _) | some (.struct _)=>true | _=>false)=true)
 (heq:∀ (a b:α) (w:Y),(Op.equal k (enc a) (enc b)).run P w=.ok (a==b) w)
 (hchk:∀ (a:α) (em:Bool) (w:Y),(Instr.checkKey em 10000 k (enc a)).run P w=.ok () w)
include heq in
theorem FA (a:α) (w:Y):∀ (l:List (α×Value)) (n i:Nat),(Instr.findAsking k (enc a) ((l.zipIdx n).map fun p=>{key:=enc p.1.1,val:=p.1.2,born:=p.2}) i).run P w=.ok (FU a l i) w
 | [],n,i=>by simp[Instr.findAsking,FU]
 | p::l,n,i=>by
  simp only[List.zipIdx_cons,List.map_cons,Instr.findAsking,Sem.run_bind,heq,Result.andThen_ok,FU]
  cases h:a==p.1
  ·simp[FA a w l (n+1) (i+1)]
  ·simp
include hwide heq hchk
variable {w:Y} {t e:TypeId}
theorem Kz (ht:P.underlying t=F (.map k e)) {z:Value} (hz:(zeroValue e).run P w=.ok z w) {b:Nat} {l:List (α×Value)} (hb:w.heap[b]? =F (AZ enc l)) (a:α) (ok:Bool):
  (Instr.lookup t (.map (F b)) (enc a) ok).run P w=.ok (if ok then .tuple #[(AN a l).getD z,.bool (AN a l).isSome] else (AN a l).getD z) w:=by
 have hf:=FA (P:=P) heq a w l 0 0;rw[<- run_findKey_eq w hwide] at hf;have hc:=fun em=>hchk a em w;have hf2:=EB a l 0;unfold Instr.lookup;simp only[Sem.run_bind,run_underlying ht,Result.andThen,_root_.Go.MapKept.run_getObj_map (show w.heap[b]? =F (.map _ _) from hb),Sem.run_pure,hc,hf]
 cases hfl:FU a l 0 with
 | none=>rw[hfl] at hf2;cases ok<;>simp[hz,<- hf2,Result.andThen]
 | some q=>rw[hfl] at hf2;cases ok<;>simp[<- hf2]
theorem Pg (ht:P.underlying t=F (.map k e)) {b:Nat} {l:List (α×Value)} (hb:w.heap[b]? =F (AZ enc l)) (a:α) (v:Value) (hno:AN a l=O):
  (Instr.mapUpdate t (.map (F b)) (enc a) v).run P w=.ok () (w.putObj b (AZ enc (l++[(a,v)]))):=by
 have hf:=FA (P:=P) heq a w l 0 0;rw[<- run_findKey_eq w hwide] at hf;have hc:=hchk a false w;rw[L2 hno] at hf;unfold Instr.mapUpdate;simp only[Sem.run_bind,run_underlying ht,Result.andThen,_root_.Go.MapKept.run_getObj_map (show w.heap[b]? =F (.map _ _) from hb),hc,hf]
 rw[_root_.Go.MapKept.run_setObj_map _ (show w.heap[b]? =F (.map _ _) from hb)];simp[World.putObj,AZ,List.zipIdx_append]
end
section
variable {α:Type} [DecidableEq α]
def BV (met:List α):List α->List α
 | []=>[]
 | x::r=>if x∈met then [] else x::BV (met++[x]) r
theorem Od (met:List α):∀ l:List α,(BV met l).length<=l.length
 | []=>Nat.le_refl _
 | x::r=>by
  unfold BV;split
  ·simp
  ·have:=Od (met++[x]) r;simp only[List.length_cons];omega
theorem Oa:∀ (l met:List α),met.Nodup->decide ((BV met l).length<l.length)= !decide (met++l).Nodup
 | [],met,h=>by simp[BV,h]
 | x::r,met,h=>by
  unfold BV;split
  ·rename_i hx;have hn:¬(met++x::r).Nodup:=fun k=>(List.nodup_append.1 k).2.2 _ hx x (by simp) rfl;simp[hn]
  ·rename_i hx;have h':(met++[x]).Nodup:=by
    rw[List.nodup_append];exact⟨h,by simp,fun a ha b hb=>by simp only[List.mem_singleton] at hb;subst hb;rintro rfl;exact hx ha⟩
   have:=Oa r (met++[x]) h';rw[List.append_assoc,List.singleton_append] at this;rw[<- this];simp
theorem T9 (l:List α):decide ((BV [] l).length<l.length)=Ai0 l:=by
 rw[Oa l [] List.nodup_nil];rfl
end
attribute [local go_sem] Oper.semAt_some
theorem X0 (A:Option Addr) (n c:Nat) (w:Y):
  Calls Tryz.prog 202 #[Z A n c] w fun e w'=>e=.returned (.func (.func 233) #[] #[.pointer (F ⟨w.heap.size,0,O⟩)])/\w'=w.alloc (.cells #[Z A n c] 37):=by
 go_enter Tryz.func202,Tryz.ntmps202;go_wp2;go_ret;exact⟨by simp,rfl⟩
theorem Ro (a b:Sc) (w:Y):(Op.equal 36 (Di a) (Di b)).run Tryz.prog w=.ok (decide (a=b)) w:=by
 have h:=Zk a.kind a.num b.kind b.num a.str b.str w;rw[run_eql_struct,Af8 a b] at h;show(Op.equalIn 10000 36 _ _).run Tryz.prog w=_;unfold Di;revert h;generalize (Op.equalIn 10000 36 _ _).run Tryz.prog w=r;intro h;cases r with
 | ok b1 w1=>
  simp only[Result.andThen] at h;injection h with h1 h2;injection h1 with h1;rw[h1,h2]
 | halt x w1=>simp[Result.andThen] at h
theorem QZ (a:Sc) (em:Bool) (w:Y):(Instr.checkKey em 10000 36 (Di a)).run Tryz.prog w=.ok () w:=by
 kernel_rfl
instance:LawfulBEq Sc:=inferInstance
def ID (ts:List Sc):List (Sc×Value):=ts.map fun x=>(x,.bool true)
theorem Jp (x:Sc):∀ ts:List Sc,AN x (ID ts)=if x∈ts then F (.bool true) else O
 | []=>rfl
 | y::r=>by
  have ih:=Jp x r;unfold ID at ih |-;rw[List.map_cons];unfold AN;rw[ih];by_cases h:x=y
  ·simp[h]
  ·simp[h]
theorem Aa3 (ts:List Sc) (x:Sc):ID (ts++[x])=ID ts++[(x,.bool true)]:=by unfold ID;simp
theorem Ad4 (w:Y) (b:Nat) (ts:List Sc) (hb:w.heap[b]? =F (AZ Di (ID ts))) (x:Sc):
  (Instr.lookup 377 (.map (F b)) (Di x) false).run Tryz.prog w=.ok (.bool (decide (x∈ts))) w:=by
 rw[Kz (P:=Tryz.prog) (enc:=Di) (k:=36) (e:=4) (z:=.bool false) (by kernel_rfl) (fun a b w=>Ro a b w) QZ Tryz.underlying377 (by kernel_rfl) hb x false,Jp];by_cases h:x∈ts<;>simp[h]
theorem YE (w:Y) (b:Nat) (ts:List Sc) (hb:w.heap[b]? =F (AZ Di (ID ts))) (x:Sc) (hx:x∉ts):
  (Instr.mapUpdate 377 (.map (F b)) (Di x) (.bool true)).run Tryz.prog w=.ok () (w.putObj b (AZ Di (ID (ts++[x])))):=by
 rw[Aa3];exact Pg (P:=Tryz.prog) (enc:=Di) (k:=36) (e:=4) (by kernel_rfl) (fun a b w=>Ro a b w) QZ Tryz.underlying377 hb x (.bool true) (by rw[Jp,if_neg hx])
theorem SB (ts:List Sc) (A:Option Addr) (cap Bs n₀ M:Nat) (hn:ts.length<=1000000):
  Af1 Tryz.prog 233 #[.pointer (F ⟨Bs,0,O⟩)] encS (fun _=>False) (fun k=>M<=k) n₀ (BV [] ts) (fun W=>M<=W.heap.size/\Boxed W Bs 37 (Z A ts.length cap)/\Ho W A ts n₀):=by
 intro l Jz Jx W ⟨hMW,hB,hR⟩ hJ hJx hY h0;obtain⟨n,hnn⟩:∃ n,ts.length=n:=⟨_,rfl⟩
 have HN:=hid hnn;rw[hnn] at hB hn;clear hnn;refine callsIn_of_wp Tryz.func233 rfl trivial ?_ rfl;simp only[Tryz.ntmps233,List.size_toArray,List.length_cons,List.length_nil,Nat.reduceAdd,Nat.reduceSub,Array.replicate_succ,Array.replicate_zero,List.push_toArray,List.append_toArray,List.nil_append,List.cons_append]
 have hB0:Boxed (W.alloc (.map #[] 0)) Bs 37 (Z A n cap):=hB.alloc _;have c0:=hB0.cell;have hmm:=@run_makeMap Tryz.prog
 gi_wp2
 refine Ey ?_
 gi_wp2
 refine wpIn_label ?_
 gi_wp2
 gi_loopw [9] (fun i wr=>∃ k:Nat,k<=n/\i=I J k/\Jz (ts.take k) wr/\Ho wr A ts n₀/\W.heap.size<wr.heap.size/\wr.heap[W.heap.size]? =F (AZ Di (ID (ts.take k)))/\Hid (BV [] ts=ts.take k++BV (ts.take k) (ts.drop k))) (fun i _=>n - (intOf i).toNat)
 case atStart=>exact⟨0,by omega,rfl,hJ _ _ _ (by simpa using h0) (Ah.alloc _ _),hR.below ((Bq _ W).alloc Nr _),by simp,Wn W _,hid rfl⟩
 case round=>
  obtain⟨k,hk,rfl,hJs,hRw,hsz,hM,HF⟩:=hrel;clear hB hR h0 c0 hB0;by_cases hlt:k<n
  ·obtain⟨b,o,rfl,hb,a0,a1,a2⟩:=hRw k (by rw[HN.out];exact hlt);have hki:(k:Int)<(n:Int):=by omega
   obtain⟨x,hx⟩:∃ x,ts.getD k A4=x:=⟨_,rfl⟩
   have hkl:k<ts.length:=by rw[HN.out];exact hlt
   have hx':ts[k]=x:=by rw[<- hx];simp[List.getD,List.getElem?_eq_getElem hkl]
   rw[hx] at a0 a1 a2;have hdrop:ts.drop k=x::ts.drop (k+1):=by rw[<- hx'];exact List.drop_eq_getElem_cons hkl
   have htake:ts.take (k+1)=ts.take k++[x]:=by rw[<- hx'];exact List.take_succ_eq_append_getElem hkl
   have HDT:=hid (Ai hdrop htake);clear hx hx' hdrop htake;obtain⟨k1,n1,s1⟩:=x;have hba:=(Bq _ wr).alloc Nr (.cells #[I J k1,I J n1,Q s1] 36);have hJ1:=hJ _ _ _ hJs (Ah.alloc wr (.cells #[I J k1,I J n1,Q s1] 36));have hR1:=hRw.below hba;have hM1:=Ay hM hba;have hlk:=Ad4 _ _ _ hM1 ⟨k1,n1,s1⟩;unfold Di at hlk;by_cases hmem:(⟨k1,n1,s1⟩:Sc)∈ts.take k
   ·rw[decide_eq_true hmem] at hlk;have HE:=hid (show BV [] ts=ts.take k by rw[HF.out,HDT.out.1];unfold BV;rw[if_pos hmem,List.append_nil]);clear hY hba hmem hM
    gi_wp2
    refine⟨fun _ _=>trivial,?_⟩
    gi_wp2
    try simp only[Exit.noGoto_normal]
    go_end0;exact⟨⟨_,rfl⟩,.inl (by rw[HE.out];exact hJ1)⟩
   ·rw[decide_eq_false hmem] at hlk;have hfr:BV [] ts=ts.take (k+1)++BV (ts.take (k+1)) (ts.drop (k+1)):=by
     rw[HF.out,HDT.out.1,HDT.out.2]
     conv=>lhs;rw[BV,if_neg hmem]
     rw[List.append_assoc];rfl
    have hpr:ts.take k++[(⟨k1,n1,s1⟩:Sc)]<+:BV [] ts:=by rw[hfr,HDT.out.2];exact List.prefix_append _ _
    obtain⟨fn,tmps,assign,body,hy,hR⟩:=hY _ _ _ hJ1 hpr;unfold encS Di at hy;have HPR:=hid (Ai hpr hfr);have HMem:=hid hmem;clear hpr hfr hba hmem hM hY
    gi_wp2
    refine⟨rfl,hR.mono ?_⟩;rintro e W3 (⟨rfl,hJ3,hk3⟩ | ⟨rfl,hJ3,hk3⟩)
    ·have hR3:=hR1.keeps hk3;have hM3:=hk3.heap hM1 (.inr (.inr rfl));have hup:=YE _ _ _ hM3 ⟨k1,n1,s1⟩ HMem.out;unfold Di at hup;have hJ4:=hJ _ _ _ hJ3 (Ah.putObj (AZ Di (ID (ts.take k++[⟨k1,n1,s1⟩]))) hM3 Nr rfl);have hM4:(W3.putObj W.heap.size (AZ Di (ID (ts.take k++[⟨k1,n1,s1⟩])))).heap[W.heap.size]? =F (AZ Di (ID (ts.take k++[⟨k1,n1,s1⟩]))):=World.putObj_heap_same (Gl hM3);have hR4:=hR3.turn (Ah.putObj (B:=0) (AZ Di (ID (ts.take k++[⟨k1,n1,s1⟩]))) hM3 (Nat.zero_le _) rfl);have hX3:=hk3.heap (Wn wr (.cells #[I J k1,I J n1,Q s1] 36)) (.inr (.inl (by show M<=wr.heap.size;omega)));obtain⟨d0,d1,d2,_⟩:=DU hX3;have hsz4:W.heap.size<(W3.putObj W.heap.size (AZ Di (ID (ts.take k++[⟨k1,n1,s1⟩])))).heap.size:=by
      have:=hk3.size;simp at this |-;omega
     clear hy a0 a1 a2 hRw hR1 hM1 hlk hM3 hJ3 hR3
     gi_wp2
     go_roundw
     case rel=>exact⟨k+1,by omega,by go_num,by rw[HDT.out.2];exact hJ4,hR4,hsz4,by rw[HDT.out.2];exact hM4,hid HPR.out.2⟩
     case measure=>simp[intOf];omega
    ·clear hy a0 a1 a2 hRw hR1 hM1 hlk
     gi_wp2
     try simp only[Exit.noGoto_normal]
     go_end0;exact⟨⟨_,rfl⟩,.inr ⟨_,HPR.out.1,hJ3⟩⟩
  ·have hki:¬(k:Int)<(n:Int):=by omega
   have HE:=hid (show BV [] ts=ts.take k by
    rw[HF.out,List.drop_eq_nil_of_le (by rw[HN.out];omega)];simp[BV])
   gi_wp2
   try simp only[Exit.noGoto_normal]
   go_end0;exact⟨⟨_,rfl⟩,.inl (by rw[HE.out];exact hJs)⟩
theorem XS (v:Value) (ts:List Sc) (w:Y) (hv:MP w v ts) (hn:ts.length<=1000000):
  Calls Tryz.prog 157 #[v] w fun e w'=>e=.returned (.bool (Ai0 ts))/\Below w.heap.size w w':=by
 obtain⟨A,cap,rfl,hR⟩:=Ho.of hv;rw[<- T9];obtain⟨N,hN⟩:∃ N,w.heap.size=N:=⟨_,rfl⟩
 rw[hN] at hR |-;have HIT:=hid (fun n₀ M=>SB ts A cap (N+1) n₀ M hn);obtain⟨fs,hfs⟩:∃ fs,BV [] ts=fs:=⟨_,rfl⟩
 have hfl:=Od [] ts;rw[hfs] at HIT hfl |-;have hfl':fs.length<=1000000:=by omega
 clear hfs hfl;refine(callsIn_wide (n:=0)).1 ?_;refine callsIn_of_wp_marks Tryz.func157 rfl trivial ?_ rfl;refine wpIn_wide.2 ?_;simp only[Tryz.ntmps157,List.size_toArray,List.length_cons,List.length_nil,Nat.reduceAdd,Nat.reduceSub,Array.replicate_succ,Array.replicate_zero,List.push_toArray,List.append_toArray,List.nil_append,List.cons_append]
 go_wp2_with fail;refine(X0 _ _ _ _).mono ?_;rintro e w1 ⟨rfl,hw1⟩;have b0:Boxed w1 N 3 (I J 0):=by rw[hw1,<- hN];exact(Boxed.new w _ _).alloc _
 have b1:Boxed w1 (N+1) 37 (Z A ts.length cap):=by
  have:=Boxed.new (w.alloc (.cells #[I J 0] 3)) 37 (Z A ts.length cap);rw[hw1];rw[World.size_alloc,hN] at this;exact this
 have hb0:Below N w w1:=by rw[hw1];exact((Bq N w).alloc (by omega) _).alloc (by simp;omega) _
 have hR1:Ho w1 A ts N:=by rw[hw1];exact(hR.below ((Bq _ w).alloc Nr _)).below ((Bq _ _).alloc Nr _)
 have hz1:w1.heap.size=N+1+1:=by rw[hw1];simp[hN]
 clear hw1 hR;go_wp2;refine(wpIn_wide (n:=0)).1 ?_;refine Mo (gf:=233) (lb:=#[.pointer (F ⟨N+1,0,O⟩)]) rfl (enters_of Tryz.func233 (by kernel_rfl) rfl) (HIT.out N (N+1+1+1+1))
  (fun Yz hY hz=>⟨by omega,Ab b1 hY,hR1.below hY⟩) (fun k hk=>hk.elim) (by omega) (by omega) (by omega) (fun x=>rfl)
  (fun pre W=>Boxed W N 3 (I J (pre.length:Int))/\Below N w W)
  (fun co pre W=>False)
  ?hI ?hIx ⟨b0,hb0⟩ ?round ?done ?stop
 case hI=>
  rintro pre X Yz ⟨h1,h2⟩ ht;exact⟨Ad h1 ht (fun f=>f),ht.below h2 (fun k hk=>hk.elim) (by omega) (by omega)⟩
 case hIx=>
  rintro co pre X Yz h ht;exact h
 case stop=>
  rintro D co pre W hD hpre h hK;exact h.elim
 case round=>
  rintro l pre x W hl ⟨h1,h2⟩ hpre;have hpl:=hpre.length_le;rw[List.length_append] at hpl;simp only[List.length_singleton] at hpl;have HPL:=hid (show(pre++[x]).length=pre.length+1 by simp);unfold encS Di
  gi_wp2
  refine⟨Ae.refl _ _ _ _,fun Wb ht _=>?_⟩;have h1':=Ad h1 ht (fun f=>f);have h2':=ht.below h2 (fun k hk=>hk.elim) (by omega) (by omega);have c0:=h1'.cell;have f0:=h1'.frozen;have hpi:(pre.length:Int)<=1000000:=by omega
  have hpi0:(0:Int)<=(pre.length:Int):=by omega
  have FIN:=hid (show Ae Ar (fun k=>N+1+1+1+1<=k) N Wb (Wb.setCell ⟨N,0,O⟩ (I J ((pre.length:Int)+1)))/\Boxed (Wb.setCell ⟨N,0,O⟩ (I J ((pre.length:Int)+1))) N 3 (I J ((pre++[x]).length:Int))/\Below N w (Wb.setCell ⟨N,0,O⟩ (I J ((pre.length:Int)+1))) from
   ⟨Ae.setCell Wb ⟨N,0,O⟩ _ Nr (by show ¬(N+1+1+1+1<=N);omega),by rw[HPL.out];exact h1'.set _,h2'.setCell (p:=⟨N,0,O⟩) Nr _⟩)
  clear h1 h2 h1' h2' ht hpre hpl
  gi_wp2
  exact FIN.out
 case done=>
  rintro D W hD ⟨h1,h2⟩ hK;have c0:=h1.cell;have f0:=h1.frozen;have hcmp:decide ((fs.length:Int)<(ts.length:Int))=decide (fs.length<ts.length):=decide_eq_decide.2 (by omega);have HC:=hid hcmp;clear hcmp;go_wp2;refine⟨by simp,.inl ⟨_,_,rfl,run_takeDeferred hK,?_⟩⟩;refine⟨.bool (decide (fs.length<ts.length)),by simp[results,Tryz.f157,go_sem],?_⟩;exact⟨rfl,BP h2 hK (by omega) (by omega) _⟩
end
end Go.Proofs.YtdpppepmkeinaaaGreatDoor
