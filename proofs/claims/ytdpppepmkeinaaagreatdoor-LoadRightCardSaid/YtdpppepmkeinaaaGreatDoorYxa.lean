/- What is proved: a part of the walk of the program and of its plain laws; no condition beside those that each theorem names. -/
import Derived.Test.YtdpppepmkeinaaaGreatDoorYz
import Derived.Test.YtdpppepmkeinaaaGreatDoorYv
import Derived.Test.YtdpppepmkeinaaaGreatDoorYx
import Derived.Test.YtdpppepmkeinaaaGreatDoorYm
import Derived.Test.YtdpppepmkeinaaaGreatDoorYy
import Derived.Test.YtdpppepmkeinaaaGreatDoorYr
import Derived.Test.YtdpppepmkeinaaaGreatDoorYk
import Derived.Test.YtdpppepmkeinaaaGreatDoorYa
import Derived.Test.YtdpppepmkeinaaaGreatDoorYd
import Derived.Test.YtdpppepmkeinaaaGreatDoorProg
import Derived.ProofKit
import Derived.OpenShut
import Derived.Carry
import Derived.Deep.DeepHandedRow
import Derived.Deep.DeepWitnessRowRef
import Derived.Lib.LaidTab
import Derived.Lib.LaidU8T
import Derived.LaidLaws
import Derived.ChangeSame
import Derived.Test.YtdpppepmkeinaaaGreatDoorRows
import Derived.LaidHandle
import Derived.Stop.LaidErr
namespace Go.Proofs.YtdpppepmkeinaaaGreatDoor
open Go Go.RowKit Go.Lib
open Go.Value renaming int->I,string->Q,slice->Z
open Go.IntKind renaming i64->J
open Option renaming none->O,some->F
open _root_.Go renaming World->Y
set_option linter.unusedSimpArgs false
set_option linter.unusedVariables false
set_option linter.unusedSectionVars false
section
set_option maxHeartbeats 8000000
open Go.Sort (swp PermIn SortedIn SWO permIn_refl permIn_trans)
set_option maxRecDepth 100000
def Ajz (n:Nat) (v:Value) (N:Nat):Prop:=∀ (a m b:Nat) (d:Array IP) (w:Y),b - a<N->a<m->m<b->b<=n->d.size=n->SortedIn FO a m d->SortedIn FO m b d→
 B9 Tryz.prog 245 #[v,I J a,I J m,I J b,Tn] w (dA v n d) (fun _:WV a b d=>.tuple #[]) (fun e=>dA v n e.1)
theorem Aj4 {a m b:Nat} (ham:a<m) (hmb:m<b):a<=Bt a m b/\Bt a m b<=CK a m b/\CK a m b<=m/\CK a m b<=(a+b) / 2/\(a+b) / 2+m<=b+Bt a m b:=by
 unfold Bt CK;by_cases c:(a+b) / 2<m
 ·rw[if_pos c,if_pos c];omega
 ·rw[if_neg c,if_neg c];omega
theorem Y7 (hC:Iu) (n:Nat) (v:Value) (a m b:Nat) (d:Array IP) (w:Y) (hs:d.size=n) (ham:a+1<m) (hmb:m+1<b) (hb:b<=n) (hn:n<=1000000) (hl:SortedIn FO a m d) (hr:SortedIn FO m b d) (IH:Ajz n v (b - a)):
  B9 Tryz.prog 245 #[v,I J a,I J m,I J b,Tn] w (dA v n d) (fun _:WV a b d=>.tuple #[]) (fun e=>dA v n e.1):=by
 intro Fz hX hF;obtain⟨PA,pc,rfl,hPA⟩:=Gz (Mem.startX hX hF) hs;obtain⟨g,rfl⟩:=hPA (by omega);obtain⟨mid,hmid⟩:∃ z,(a+b) / 2=z:=⟨_,rfl⟩
 obtain⟨s0,hs0⟩:∃ z,Bt a m b=z:=⟨_,rfl⟩
 obtain⟨e0,he0⟩:∃ z,CK a m b=z:=⟨_,rfl⟩
 have hse:=Aj4 (a:=a) (m:=m) (b:=b) (by omega) (by omega);rw[hs0,he0,hmid] at hse;have hbr:(mid<m->s0+b=mid+m/\e0=mid)/\(¬mid<m->s0=a/\e0=m):=by
  rw[<- hs0,<- he0];unfold Bt CK;rw[hmid];constructor
  ·intro h;rw[if_pos h,if_pos h];omega
  ·intro h;rw[if_neg h,if_neg h];exact⟨rfl,rfl⟩
 obtain⟨p,hp⟩:∃ p:Nat->Bool,∀ h,p h= !FO d[mid+m - 1 - h]! d[h]! :=⟨_,fun _=>rfl⟩
 have hsp:=WO Aap (a:=a) (m:=m) (b:=b) (d:=d) (by omega) (by omega) (by omega) hl hr;have hsx:Fd FO a m b d=AO p s0 e0:=by
  unfold Fd;rw[hs0,he0,hmid];exact congrArg (fun f=>AO f s0 e0) (funext fun h=>(hp h).symm)
 rw[hsx,hmid] at hsp;have hmz:a<mid/\mid<b:=by omega
 refine V.enter _ Tryz.func245 (Mem.startX hX hF) ?_
 repeat refine W ?_
 refine V.if (fun ht=>?_) (fun _=>?_)
 ·exfalso;simp at ht;omega
 repeat refine W ?_
 refine V.if (fun ht=>?_) (fun _=>?_)
 ·exfalso;simp at ht;omega
 repeat refine W ?_
 have hw1:=IC a b (by omega);rw[hmid] at hw1;have hw2:IntKind.i64.wrap ((mid:Int)+m)=(mid:Int)+m:=by rw[IntKind.wrap_i64];omega
 rw[hw1,hw2];refine V.ifp (fun c=>?_) (fun c=>?_)
 repeat refine W ?_
 refine V.re 20 (v:=I J ((mid:Int)+m - b)) (v':=I J s0) (by congr 1;omega) ?_;refine V.re 21 (v:=I J mid) (v':=I J e0) (by congr 1;omega) ?_
 rotate_left
 repeat refine W ?_
 refine V.re 20 (v:=I J a) (v':=I J s0) (by congr 1;omega) ?_;refine V.re 21 (v:=I J m) (v':=I J e0) (by congr 1;omega) ?_;all_goals
  refine V.re 22 (v:=I J ((mid:Int)+m - 1)) (v':=I J (mid+m - 1:Nat)) (by congr 1;omega) ?_;refine V.loop (ι:=Nat×Nat) (fun q=>s0<=q.1/\q.1<=q.2/\q.2<=e0/\AO p q.1 q.2=AO p s0 e0) (fun _=>Mem Fz w [dA (Z (F ⟨g,0,O⟩) n pc) n d]) (fun q=>[(20,I J q.1),(21,I J q.2),(22,I J (mid+m - 1:Nat)),(19,I J ((mid:Int)+m)),(18,I J mid),(0,Z (F ⟨g,0,O⟩) n pc),(1,I J a),(2,I J m),(3,I J b),(4,Tn)]) (fun q=>q.2 - q.1) (s0,e0) ⟨Nat.le_refl _,hse.2.1,Nat.le_refl _,rfl⟩ (fun w h=>h) ⟨rfl,rfl,rfl,rfl,rfl,rfl,rfl,rfl,rfl,rfl,trivial⟩ ?_;rintro⟨i,j⟩ ⟨h1,h2,h3,h4⟩;dsimp only at h1 h2 h3 h4
  repeat refine W ?_
  refine V.ifp (fun hlt=>?_) (fun hge=>?_)
  ·have hlt:i<j:=by omega
   repeat refine W ?_
   obtain⟨h,hh⟩:∃ h,(i+j) / 2=h:=⟨_,rfl⟩
   have hi0:i<=h/\h<j:=by omega
   have hw3:=IC i j (by omega);have hw4:IntKind.i64.wrap (((mid+m - 1:Nat):Int) - h)=((mid+m - 1 - h:Nat):Int):=by rw[IntKind.wrap_i64];omega
   rw[hh] at hw3;rw[hw3,hw4];refine R.ix (show mid+m - 1 - h<n by omega) ?_;refine R.lw (v:=.agg (Ct d[mid+m - 1 - h]!).toArray) ?_ ?_
   ·rw[Nat.zero_add,Eb d (mid+m - 1 - h) (by omega)];rfl
   repeat refine W ?_
   refine R.ix (show h<n by omega) ?_;refine R.lw (v:=.agg (Ct d[h]!).toArray) ?_ ?_
   ·rw[Nat.zero_add,Eb d h (by omega)];rfl
   refine R.c (fun w' h'=>Ip hC d[mid+m - 1 - h]! d[h]! w') ?_
   repeat refine W ?_
   refine V.if (fun hc=>?_) (fun hc=>?_)
   ·repeat refine W ?_
    refine V.again (h+1,j) rfl ⟨by dsimp only;omega,by dsimp only;omega,h3,by rw[<- h4,GJ (j:=j) hlt (by rw[hh,hp];simpa using hc),hh]⟩
   ·repeat refine W ?_
    refine V.again (i,h) rfl ⟨h1,by dsimp only;omega,by dsimp only;omega,by rw[<- h4,EC (j:=j) hlt (by rw[hh,hp];simpa using hc),hh]⟩
  ·have hij:i=j:=by omega
   subst hij;rw[DJ (by omega)] at h4;rw[<- h4] at hsp;obtain⟨e,he⟩:∃ e,mid+m - i=e:=⟨_,rfl⟩
   rw[he] at hsp;obtain⟨k1,k2,k3,k4,k5,k6,hX⟩:=hsp;obtain⟨d1,hd1⟩:∃ d1,AH m (m - i) (e - m) d=d1:=⟨_,rfl⟩
   rw[hd1] at hX;have hz1:d1.size=n:=by rw[hX.perm.1,hs]
   repeat refine W ?_
   by_cases g1:i<m
   refine R.yes 181 (p:=i<m) g1 ?_
   repeat refine W ?_
   refine V.ifp (fun g2=>?_) (fun g2=>?_);refine V.re 24 (v:=I J ((mid:Int)+m - i)) (v':=I J e) (by congr 1;omega) ?_
   repeat refine W ?_
   refine R.cw (fun w' h'=>Aeu n _ Tn i m e d w' hs g1 (by omega) (by omega) hn) (fun _=>?_);rw[hd1]
   rotate_left
   have hdd:d1=d:=by rw[<- hd1,AH,dif_pos (by omega)]
   refine V.re 24 (v:=I J ((mid:Int)+m - i)) (v':=I J e) (by congr 1;omega) ?_;refine V.pre (S':=Mem Fz w [dA (Z (F ⟨g,0,O⟩) n pc) n d1]) ?_ (fun w' h'=>by rw[hdd];exact h')
   rotate_left
   have hdd:d1=d:=by rw[<- hd1,AH,dif_pos (by omega)]
   refine R.no 181 (p:=i<m) g1 ?_;iterate 6 refine W ?_
   refine V.re 24 (v:=I J ((mid:Int)+m - i)) (v':=I J e) (by congr 1;omega) ?_;refine V.pre (S':=Mem Fz w [dA (Z (F ⟨g,0,O⟩) n pc) n d1]) ?_ (fun w' h'=>by rw[hdd];exact h');all_goals
    repeat refine W ?_
    by_cases g3:a<i
    refine R.yes 195 (p:=a<i) g3 ?_
    repeat refine W ?_
    refine V.ifp (fun g4=>?_) (fun g4=>?_)
    repeat refine W ?_
    refine R.cw (fun w' h'=>IH a i mid d1 w' (by omega) g3 (by omega) (by omega) hz1 hX.s1 hX.s2) (fun q=>?_);obtain⟨d2,q1,q2⟩:=q
    rotate_left
    obtain⟨d2,hd2,q1,q2⟩:∃ d2,d2=d1/\PermIn a mid d1 d2/\SortedIn FO a mid d2:=⟨d1,rfl,permIn_refl _ _ _,CF hX.s1 hX.s2 (by omega) k1 k3⟩
    refine V.pre (S':=Mem Fz w [dA (Z (F ⟨g,0,O⟩) n pc) n d2]) ?_ (fun w' h'=>by rw[hd2];exact h')
    rotate_left
    refine R.no 195 (p:=a<i) g3 ?_;iterate 6 refine W ?_
    obtain⟨d2,hd2,q1,q2⟩:∃ d2,d2=d1/\PermIn a mid d1 d2/\SortedIn FO a mid d2:=⟨d1,rfl,permIn_refl _ _ _,CF hX.s1 hX.s2 (by omega) k1 k3⟩
    refine V.pre (S':=Mem Fz w [dA (Z (F ⟨g,0,O⟩) n pc) n d2]) ?_ (fun w' h'=>by rw[hd2];exact h');all_goals
     have hz2:d2.size=n:=by rw[q1.1,hz1]
     have s3:SortedIn FO mid e d2:=fun x y hx hxy hy=>by
      rw[q1.2.1 x (.inr hx),q1.2.1 y (.inr (by omega))];exact hX.s3 x y hx hxy hy
     have s4:SortedIn FO e b d2:=fun x y hx hxy hy=>by
      rw[q1.2.1 x (.inr (by omega)),q1.2.1 y (.inr (by omega))];exact hX.s4 x y hx hxy hy
     have fin:∀ d3,PermIn mid b d2 d3->SortedIn FO mid b d3->PermIn a b d d3/\SortedIn FO a b d3:=fun d3 r1 r2=>Zj Aap (by omega) k1 k3 k4 k6 (by omega) (by omega) hX q1 q2 r1 r2
     repeat refine W ?_
     by_cases g5:mid<e
     ·refine R.yes 209 (p:=mid<e) g5 ?_
      repeat refine W ?_
      refine V.ifp (fun g6=>?_) (fun g6=>?_)
      ·repeat refine W ?_
       refine R.cw (fun w' h'=>IH mid e b d2 w' (by omega) g5 (by omega) (by omega) hz2 s3 s4) (fun q=>?_)
       repeat refine W ?_
       refine V.end fun w' h'=>?_;exact⟨⟨q.1,fin q.1 q.2.1 q.2.2⟩,rfl,Mem.toW h'.sel⟩
      ·repeat refine W ?_
       refine V.end fun w' h'=>?_;exact⟨⟨d2,fin d2 (permIn_refl _ _ _) (CF s3 s4 (by omega) (by omega) (by omega))⟩,rfl,Mem.toW h'.sel⟩
     ·refine R.no 209 (p:=mid<e) g5 ?_
      repeat refine W ?_
      refine V.end fun w' h'=>?_;exact⟨⟨d2,fin d2 (permIn_refl _ _ _) (CF s3 s4 (by omega) (by omega) (by omega))⟩,rfl,Mem.toW h'.sel⟩
theorem Ll (hC:Iu) (n:Nat) (v:Value) (hn:n<=1000000):∀ N,Ajz n v N
 | 0=>fun a m b d w h=>absurd h (Nat.not_lt_zero _)
 | N+1=>fun a m b d w h h1 h2 h3 hs hl hr=>by
  by_cases c1:m=a+1
  ·subst c1;exact Aac hC n v a b d w hs h2 h3 hn hr
  ·by_cases c2:b=m+1
   ·subst c2;exact Aav hC n v a m d w hs (by omega) h3 hn hl
   ·exact Y7 hC n v a m b d w hs (by omega) (by omega) h3 hn hl hr (fun a' m' b' d' w' h'=>Ll hC n v hn N a' m' b' d' w' (by omega))
end
section
set_option maxHeartbeats 8000000
open Go.Sort (swp PermIn SortedIn SWO permIn_refl permIn_trans permIn_mono insOuter insInner insertionSort)
set_option maxRecDepth 100000
theorem Pp (hC:Iu) (n:Nat) (v:Value) (a b:Nat) (d:Array IP) (w:Y) (hs:d.size=n) (hab:a<=b) (hb:b<=n) (hn:n<=1000000):
  B9 Tryz.prog 244 #[v,I J a,I J b,Tn] w (dA v n d) (fun _:WV a b d=>.tuple #[]) (fun e=>dA v n e.1):=by
 intro Fz hX hF;obtain⟨PA,pc,rfl,hPA⟩:=Gz (Mem.startX hX hF) hs;have hI:=Go.Sort.insertionSort_holds (lt:=FO) Aap d a b hab (by omega);refine V.enter _ Tryz.func244 (Mem.startX hX hF) ?_
 repeat refine W ?_
 refine V.loop (ι:=Nat×Array IP) (fun q=>a<q.1/\q.2.size=n/\insOuter FO a b q.1 q.2=insertionSort FO d a b) (fun q=>Mem Fz w [dA (Z PA n pc) n q.2]) (fun q=>[(8,I J q.1),(0,Z PA n pc),(1,I J a),(2,I J b),(3,Tn)]) (fun q=>b - q.1) (a+1,d) ⟨Nat.lt_succ_self _,hs,rfl⟩ (fun w h=>h) ⟨rfl,rfl,rfl,rfl,rfl,trivial⟩ ?_;rintro⟨i,e⟩ ⟨hi,hes,he⟩;dsimp only at hi hes he
 repeat refine W ?_
 refine V.ifp (fun hlt=>?_) (fun hge=>?_)
 ·have hlt:i<b:=by omega
  obtain⟨g,rfl⟩:=hPA (by omega);have h2:insOuter FO a b i e=insOuter FO a b (i+1) (insInner FO a i e):=by rw[insOuter,if_pos hlt]
  repeat refine W ?_
  refine V.loop (ι:=Nat×Array IP) (fun q=>q.1<=i/\q.2.size=n/\insInner FO a q.1 q.2=insInner FO a i e) (fun q=>Mem Fz w [dA (Z (F ⟨g,0,O⟩) n pc) n q.2]) (fun q=>[(9,I J q.1),(8,I J i),(0,Z (F ⟨g,0,O⟩) n pc),(1,I J a),(2,I J b),(3,Tn)]) (fun q=>q.1) (i,e) ⟨Nat.le_refl _,hes,rfl⟩ (fun w h=>h) ⟨rfl,rfl,rfl,rfl,rfl,rfl,trivial⟩ ?_;rintro⟨j,f⟩ ⟨hj,hfs,hf⟩;dsimp only at hj hfs hf;have out:insInner FO a j f=f->insOuter FO a b (i+1) f=insertionSort FO d a b:=fun hq=>by rw[<- he,h2,<- hf,hq]
  repeat refine W ?_
  by_cases g1:a<j
  ·obtain⟨k,rfl⟩:∃ k,j=k+1:=⟨j - 1,by omega⟩
   refine R.yes 21 (p:=a<k+1) g1 ?_
   repeat refine W ?_
   refine R.ix (show k+1<n by omega) ?_;refine R.lw (v:=.agg (Ct f[k+1]!).toArray) ?_ ?_
   ·rw[Nat.zero_add,Eb f (k+1) (by omega)];rfl
   repeat refine W ?_
   refine R.re 29 (v:=I J ((k:Int)+1 - 1)) (v':=I J k) (by congr 1;omega) ?_;refine R.ix (show k<n by omega) ?_;refine R.lw (v:=.agg (Ct f[k]!).toArray) ?_ ?_
   ·rw[Nat.zero_add,Eb f k (by omega)];rfl
   refine R.c (fun w' h'=>Ip hC f[k+1]! f[k]! w') ?_
   repeat refine W ?_
   refine V.ifp (fun hc=>?_) (fun hc=>?_)
   ·repeat refine W ?_
    refine R.re 44 (v:=I J ((k:Int)+1 - 1)) (v':=I J k) (by congr 1;omega) ?_;refine R.re 41 (v:=I J ((k:Int)+1 - 1)) (v':=I J k) (by congr 1;omega) ?_;refine R.ix (show k<n by omega) ?_;refine R.lw (v:=.agg (Ct f[k]!).toArray) ?_ ?_
    ·rw[Nat.zero_add,Eb f k (by omega)];rfl
    repeat refine W ?_
    refine R.ix (show k+1<n by omega) ?_;refine R.lw (v:=.agg (Ct f[k+1]!).toArray) ?_ ?_
    ·rw[Nat.zero_add,Eb f (k+1) (by omega)];rfl
    refine R.ix (show k+1<n by omega) ?_;refine R.sw (v:=.agg (Ct f[k]!).toArray) (xs':=(f.setIfInBounds (k+1) f[k]!).toList.flatMap Ct) ?_ ?_ (hp:=.inr (.inl ⟨rfl,by kernel_rfl⟩))
    ·rw[Nat.zero_add];exact Gw f (k+1) _ (by omega)
    refine R.ix (show k<n by omega) ?_;refine R.sw (v:=.agg (Ct f[k+1]!).toArray) (xs':=(swp f (k+1) k).toList.flatMap Ct) ?_ ?_ (hp:=.inr (.inl ⟨rfl,by kernel_rfl⟩))
    ·rw[Nat.zero_add];exact Gw _ k _ (by rw[Array.size_setIfInBounds];omega)
    repeat refine W ?_
    refine V.again (k,swp f (k+1) k) rfl ⟨by dsimp only;omega,by rw[Go.Sort.size_swp,hfs],by rw[<- hf];simp[insInner,g1,hc]⟩
   ·repeat refine W ?_
    refine V.again (i+1,f) rfl ⟨by dsimp only;omega,hfs,out (by simp[insInner,hc])⟩
  ·refine R.no 21 (p:=a<j) g1 ?_
   repeat refine W ?_
   refine V.again (i+1,f) rfl ⟨by dsimp only;omega,hfs,out (by
    cases j with
    | zero=>rfl
    | succ k=>simp[insInner,g1])⟩
 ·rw[insOuter,if_neg (by omega)] at he;rw[<- he] at hI
  repeat refine W ?_
  refine V.end fun w' h'=>?_;exact⟨⟨e,hI⟩,rfl,Mem.toW h'.sel⟩
theorem GL {a b n:Nat} {d e f:Array IP} (h1:PermIn 0 n d e) (h2:PermIn a b e f) (hb:b<=n) (hn:n<=e.size):PermIn 0 n d f:=permIn_trans _ _ _ _ _ h1 (permIn_mono e f a b 0 n (Nat.zero_le _) hb hn h2)
theorem XJ (hC:Iu) (n:Nat) (v:Value) (d:Array IP) (w:Y) (hs:d.size=n) (hn:n<=1000000):
  B9 Tryz.prog 217 #[v,I J n,Tn] w (dA v n d) (fun _:WV 0 n d=>.tuple #[]) (fun e=>dA v n e.1):=by
 intro Fz hX hF;refine V.enter _ Tryz.func217 (Mem.startX hX hF) ?_
 repeat refine W ?_
 refine V.loop (ι:=Nat×Nat×Array IP) (fun q=>q.2.1=20*q.1/\q.2.1<=n/\q.2.2.size=n/\PermIn 0 n d q.2.2/\Ci FO 20 0 q.2.1 q.2.2) (fun q=>Mem Fz w [dA v n q.2.2]) (fun q=>[(6,I J 20),(7,I J q.2.1),(8,I J (q.2.1+20:Nat)),(0,v),(1,I J n),(2,Tn)]) (fun q=>n - q.2.1) (0,0,d) ⟨rfl,Nat.zero_le _,hs,permIn_refl _ _ _,Kr (hi:=0)⟩ (fun w h=>h) ⟨rfl,rfl,rfl,rfl,rfl,rfl,trivial⟩ ?_;rintro⟨q,a,e⟩ ⟨ha,han,hes,hp,hB⟩;dsimp only at ha han hes hp hB
 repeat refine W ?_
 refine V.ifp (fun hle=>?_) (fun hgt=>?_)
 ·have hle:a+20<=n:=by omega
  repeat refine W ?_
  refine R.cw (fun w' h'=>Pp hC n v a (a+20) e w' hes (by omega) hle hn) (fun f=>?_);obtain⟨f,f1,f2⟩:=f
  repeat refine W ?_
  refine V.again (q+1,a+20,f) rfl ⟨by dsimp only;omega,hle,by rw[f1.1,hes],GL hp f1 hle (by omega),DK (by omega) hB f1 f2 ha⟩
 ·repeat refine W ?_
  refine R.cw (fun w' h'=>Pp hC n v a n e w' hes (by omega) Nr hn) (fun f=>?_);obtain⟨f,f1,f2⟩:=f;have hfs:f.size=n:=by rw[f1.1,hes]
  have hfp:=GL hp f1 Nr (by omega);have hfB:=DK (by omega) hB f1 f2 ha;clear hB hp hes
  repeat refine W ?_
  refine V.loop (ι:=Nat×Array IP) (fun q=>0<q.1/\q.1<=4000000/\q.2.size=n/\PermIn 0 n d q.2/\Ci FO q.1 0 n q.2) (fun q=>Mem Fz w [dA v n q.2]) (fun q=>[(6,I J q.1),(0,v),(1,I J n),(2,Tn)]) (fun q=>n - q.1) (20,f) ⟨by dsimp only;omega,by dsimp only;omega,hfs,hfp,hfB⟩ (fun w h=>h) ⟨rfl,rfl,rfl,rfl,trivial⟩ ?_;clear hfB hfp hfs f1 f2 ha han hgt f e a q;rintro⟨bs,e⟩ ⟨hb0,hb1,hes,hp,hB⟩;dsimp only at hb0 hb1 hes hp hB
  repeat refine W ?_
  refine V.ifp (fun hlt=>?_) (fun hge=>?_)
  ·have hlt:bs<n:=by omega
   repeat refine W ?_
   have hw:IntKind.i64.wrap (2*(bs:Int))=((2*bs:Nat):Int):=by rw[IntKind.wrap_i64];omega
   refine V.re 8 (v:=I J (IntKind.i64.wrap (2*(bs:Int)))) (v':=I J (0+2*bs:Nat)) (by rw[hw,Nat.zero_add]) ?_;refine V.loop (ι:=Nat×Nat×Array IP) (fun q=>q.2.1=2*bs*q.1/\q.2.1<=n/\q.2.2.size=n/\PermIn 0 n d q.2.2/\Ci FO (2*bs) 0 q.2.1 q.2.2/\Ci FO bs q.2.1 n q.2.2) (fun q=>Mem Fz w [dA v n q.2.2]) (fun q=>[(6,I J bs),(7,I J q.2.1),(8,I J (q.2.1+2*bs:Nat)),(0,v),(1,I J n),(2,Tn)]) (fun q=>n - q.2.1) (0,0,e) ⟨by simp,Nat.zero_le _,hes,hp,Kr (hi:=0),hB⟩ (fun w h=>h) ⟨rfl,rfl,rfl,rfl,rfl,rfl,trivial⟩ ?_;rintro⟨q,a,f⟩ ⟨ha,han,hfs,hfp,hf1,hf2⟩;dsimp only at ha han hfs hfp hf1 hf2;have ha1:a=bs*(2*q):=by rw[ha,Nat.mul_comm 2 bs,Nat.mul_assoc]
   have ha2:a+bs=bs*(2*q+1):=by rw[Nat.mul_add,Nat.mul_one,<- ha1]
   repeat refine W ?_
   refine V.ifp (fun hle=>?_) (fun hgt=>?_)
   ·have hle:a+2*bs<=n:=by omega
    repeat refine W ?_
    refine R.re 40 (v:=I J ((a:Int)+bs)) (v':=I J (a+bs:Nat)) (by congr 1) ?_
    repeat refine W ?_
    refine R.cw (fun w' h'=>Ll hC n v hn (2*bs+1) a (a+bs) (a+2*bs) f w' (by omega) (by omega) (by omega) hle hfs (C4 hb0 hf2 Nr (by omega) ha1 Nr) (C4 hb0 hf2 (by omega) hle ha2 (by omega))) (fun r=>?_);obtain⟨r,r1,r2⟩:=r
    repeat refine W ?_
    rw[hw];refine V.re 8 (v:=I J ((a:Int)+2*bs+((2*bs:Nat):Int))) (v':=I J (a+2*bs+2*bs:Nat)) (by congr 1) ?_;refine V.re 7 (v:=I J ((a:Int)+2*bs)) (v':=I J (a+2*bs:Nat)) (by congr 1) ?_;refine V.again (q+1,a+2*bs,r) rfl ⟨by dsimp only;rw[ha,Nat.mul_add,Nat.mul_one],hle,by rw[r1.1,hfs],GL hfp r1 hle (by omega),DK (by omega) hf1 r1 r2 ha,R6 hf2 r1 Nr (by dsimp only;omega)⟩
   ·repeat refine W ?_
    refine V.ifp (fun hlt2=>?_) (fun hge2=>?_)
    ·repeat refine W ?_
     refine R.cw (fun w' h'=>Ll hC n v hn (n+1) a (a+bs) n f w' (by omega) (by omega) (by omega) Nr hfs (C4 hb0 hf2 Nr (by omega) ha1 Nr) (C4 hb0 hf2 (by omega) Nr ha2 (by omega))) (fun r=>?_);obtain⟨r,r1,r2⟩:=r
     repeat refine W ?_
     refine V.re 6 (v:=I J (IntKind.i64.wrap ((bs:Int)*2))) (v':=I J (2*bs:Nat)) (by congr 1;rw[IntKind.wrap_i64];omega) ?_;refine V.again (2*bs,r) rfl ⟨by dsimp only;omega,by dsimp only;omega,by rw[r1.1,hfs],GL hfp r1 Nr (by omega),DK (by omega) hf1 r1 r2 ha⟩
    ·repeat refine W ?_
     refine V.re 6 (v:=I J (IntKind.i64.wrap ((bs:Int)*2))) (v':=I J (2*bs:Nat)) (by congr 1;rw[IntKind.wrap_i64];omega) ?_;refine V.again (2*bs,f) rfl ⟨by dsimp only;omega,by dsimp only;omega,hfs,hfp,DK (by omega) hf1 (permIn_refl _ _ _) (C4 hb0 hf2 Nr Nr ha1 (by omega)) ha⟩
  ·repeat refine W ?_
   refine V.end fun w' h'=>?_;exact⟨⟨e,hp,Um hB (by omega)⟩,rfl,Mem.toW h'.sel⟩
theorem Adw {e:Array IP} (h:SortedIn FO 0 e.size e):Ajs e.toList:=by
 unfold Ajs;rw[List.pairwise_iff_getElem];intro i j hi hj hij;have h1:=h i j (Nat.zero_le _) hij (by simpa using hj);have ei:e[i]! =e.toList[i]:=by simp at hi;simp[hi]
 have ej:e[j]! =e.toList[j]:=by simp at hj;simp[hj]
 rw[ei,ej] at h1;have h2:¬CM e.toList[j].1 e.toList[i].1<0:=by simpa using h1
 have:=AP.sym e.toList[j].1 e.toList[i].1;omega
theorem Add {d e:Array IP} (h:PermIn 0 d.size d e):e.toList.Perm d.toList:=by
 have h1:=h.2.2;have h2:=h.1
 rwa [<- h2,Array.extract_size,h2,Array.extract_size] at h1
theorem LE (hC:Iu) (n:Nat) (hb:n<=1000000):JF n:=by
 intro ps v w hn hnd Fz hX hF;subst hn;refine V.enter _ Tryz.func181 (Mem.startX hX hF) ?_;refine V.know (p:=∃ PA pc,v=Z PA ps.length pc) (fun w' h'=>(AL (show Mem Fz w [psA v ps] w' from h') (List.Mem.head _)).elim (fun⟨e,e0⟩=>⟨O,0,by rw[e,e0]⟩) (fun⟨g,c,e⟩=>⟨_,c,e⟩)) fun hv=>?_;obtain⟨PA,pc,rfl⟩:=hv
 repeat refine W ?_
 refine R.cw (X:=psA (Z PA ps.length pc) ps) (fun w' h'=>XJ hC ps.length _ ps.toArray w' (by simp) hb) (fun l=>?_)
 repeat refine W ?_
 refine V.end fun w' h'=>?_;obtain⟨l,h1,h2⟩:=l;have hz:ps.toArray.size=ps.length:=by simp
 have hls:l.size=ps.length:=by rw[h1.1,hz]
 have h3:=Add (d:=ps.toArray) (e:=l) (by rw[hz];exact h1);have hl:=Ad7 hnd (Adw (e:=l) (by rw[hls];exact h2)) h3;refine⟨(),rfl,Mem.toW ?_⟩;unfold psA;rw[<- hl,h3.length_eq];exact h'.sel
end
section
set_option maxHeartbeats 16000000
set_option maxRecDepth 100000
section
variable {w:Y} {S:Nat->Prop} {b:Nat} {ty:TypeId}
theorem ksNil {A:Option Addr}:Fk w S A []:=fun j x hj=>by cases hj
theorem isNil {A:Option Addr}:GT w S A []:=fun j x hj=>by cases hj
theorem Ajm {is:List Int} (h:w.heap[b]? =F (.cells (is.map (Value.int .i64)).toArray ty)) (hS:S b):GT w S (F ⟨b,0,O⟩) is:=fun j i hj=>by
 refine⟨b,0,rfl,hS,fun k u hk=>?_⟩
 match k,hk with
 | 0,hk=>
  cases hk
  have:=Cs.of_blk h j (I J i) (by rw[List.getElem?_map,hj];rfl)
  rwa [Nat.mul_one,Nat.add_zero]
theorem Ahx {ns:List Nd} {vs:List (Value×Value)} (h:w.heap[b]? =F (.cells (AU ns vs).toArray ty)) (hl:vs.length=ns.length) (hS:S b) (hp:∀ (j:Nat) x p,ns[j]? =F x->vs[j]? =F p->NdP w S x p):CL w S (F ⟨b,0,O⟩) ns:=fun j x hj=>by
 obtain⟨p,hpj⟩:∃ p,vs[j]? =F p:=⟨_,List.getElem?_eq_getElem (by rw[hl];exact(List.getElem?_eq_some_iff.1 hj).1)⟩
 obtain⟨KA,kc,IA,ic,rfl,hk,hi⟩:=hp j x p hj hpj;have hc:=(Cs.of_blk h).drop (j*6);rw[IQ ns vs j x _ hl hj hpj] at hc;exact⟨b,0,KA,kc,IA,ic,rfl,hS,fun i v hv=>hc i v (by rw[List.getElem?_append_left (List.getElem?_eq_some_iff.1 hv).1];exact hv),hk,hi⟩
end
theorem Akv:GrQ g4 where
 chk:=Ajf.1
 sm:=by unfold SmN;decide
 str:=by decide
 root:=by decide
 len:=by decide
 kids:=by decide
theorem Ak0:GrQ g5 where
 chk:=Ajf.2
 sm:=by unfold SmN;decide
 str:=by decide
 root:=by decide
 len:=by decide
 kids:=by decide
theorem Agt:Ys (BJ g4.nodes g5.nodes) where
 len:=by decide
 small:=by decide
 once:=by decide
 sort x hx:=LE YD _ (by have:=(show ∀ x∈BJ g4.nodes g5.nodes,x.keys.length<20 by decide) x hx;omega)
 str:=by decide
 fit:=by decide+kernel
 kids:=by decide
theorem JP (w:Y) (hW:FI w):Calls Tryz.prog 11 #[] w fun e w'=>e=.returned (.bool true)/\Below w.heap.size w w':=by
 have a1:=fun w' (h:FI w')=>Et Ai6 w' h;have a2:=fun w' (h:FI w')=>Sw Ww w' h (fun _=>by rw[VB.2.1]);have a3:=fun w' (h:FI w')=>Et Ww w' h;have a4:=fun w' (h:FI w')=>Et Ajh w' h;have a5:=fun w' (h:FI w')=>Nx Ahw Ags w' h (by rw[says4];exact fun _=>Akv) (by rw[Yk];exact fun _=>Ak0) (by rw[says4,Yk];exact fun _ _=>Agt);have hal:AY Ahw.data.toList Ags.data.toList=(true,0):=by unfold AY;rw[says4,Yk];exact(if_neg (by decide)).trans ((if_neg (by decide)).trans (by rw[Acs]))
 rw[Ajl] at a1;rw[VB.2.1] at a2;rw[VB.2.2] at a3;rw[Aj9] at a4;rw[hal] at a5;obtain⟨T,hT⟩:∃ x,(Ba 100000 Ww.data.toList).1=x:=⟨_,rfl⟩
 have hk:T.kind=2:=by rw[<- hT];exact VB.1
 rw[hT] at a2;clear hT hal;refine V.enter _ Tryz.func11 (Mem.start (C:=Ao) w) ?_
 repeat refine W ?_
 refine R.cf (fun w' h'=>a1 w' (hW.to h'.1.below)) (fun q1=>?_)
 repeat (first | refine W ?_ | refine R.new fun _ _=>?_)
 refine R.cf (fun w' h'=>a2 w' (hW.to h'.1.below)) (fun y=>?_);refine R.know (p:=y.1=2) (fun w' h'=>?_) fun hy=>?_
 ·obtain⟨Fz,hF,_⟩:=h'.has (X:=Aq (As y) T) (by simp);obtain⟨y',e,h1,_⟩:=Cm.y (show Cm w' Fz T (As y) from hF);injection e with e _;injection e with _ e;rw[e,h1];cases T;exact hk
 repeat (first | refine W ?_ | refine R.new fun _ _=>?_)
 refine R.cf (fun w' h'=>a3 w' (hW.to h'.1.below)) (fun q3=>?_)
 repeat (first | refine W ?_ | refine R.new fun _ _=>?_)
 refine R.cf (fun w' h'=>a4 w' (hW.to h'.1.below)) (fun q4=>?_)
 repeat (first | refine W ?_ | refine R.new fun _ _=>?_)
 refine R.c (fun w' h'=>a5 w' (hW.to h'.1.below)) ?_
 repeat (first | refine W ?_ | refine R.new fun _ _=>?_)
 refine R.bs (m:=2) (cs:=[I J 0,I J 1]) (bt:=3) (fun bi hbi=>?_)
 repeat refine W ?_
 refine R.bs (m:=2) (cs:=AU g1.nodes [(Z O 0 0,Z (F ⟨bi,0,O⟩) 2 2),(Z O 0 0,Z O 0 0)]) (bt:=40) (fun bn hbn=>?_)
 repeat refine W ?_
 refine R.c (v:=.bool true) (fun w' h'=>?_) ?_
 ·obtain⟨Fz,⟨A,c,ea,hn⟩,hF⟩:=h'.has (X:=Nq (Eh q1.1 q1.2 g1) g1) (by simp);obtain⟨rfl,rfl⟩:=KH ea;have hbl:=h'.blk (b:=bi) (cs:=[I J 0,I J 1]) (ty:=3) (by simp);refine(TG Fz (fun _=>True) q1.1 (F ⟨bn,0,O⟩) q1.2 2 g1 g1 w' hn (Ahx (h'.blk (List.Mem.head _)) rfl trivial (fun j x p hx hp=>?_)) (by unfold SmN;decide)).mono fun e w2 ⟨he,hb⟩=>⟨by rw[he,decide_eq_true rfl],hb⟩
  match j,hx,hp with
  | 0,hx,hp=>cases hx;cases hp;exact⟨O,0,F ⟨bi,0,O⟩,2,rfl,ksNil,Ajm (is:=[0,1]) hbl trivial⟩
  | 1,hx,hp=>cases hx;cases hp;exact⟨O,0,O,0,rfl,ksNil,isNil⟩
 repeat refine W ?_
 refine R.re 68 (v:=.bool (y.1==2)) (v':=.bool true) (by simp[hy]) ?_
 repeat refine W ?_
 refine V.end fun w' h'=>?_;exact⟨rfl,h'.1.below⟩
end
section
set_option maxRecDepth 100000
section
variable {P:Program} {n:Nat} {ds:List Deferred} {d:Bool} {ops:Array Oper} {K:Act->Y->Prop} {i:Nat} {pl pend:List Nat} {S:Y->Prop} {l:Env}
 {t:Nat} {ty:TypeId} {ps:String} {af:Array Edge} {gd:Option (Nat×Bool)}
theorem R.cut {x y:Operand} {tt:TypeId} {s:ByteArray} (k:Nat) {m:Int} (hk:k<=s.size) (hm:m=(k:Int)) (h:Rj P n ds d ops K pl pend S ((t,Q (s.extract 0 k))::l)) (ho:Aw ops.toList i=F ⟨F t,.slice tt x O (F y) O,ty,ps,af,gd⟩:=by rfl) (hx:ev l x=F (Q s):=by rfl) (hy:ev l y=F (I J m):=by rfl) (hu:P.underlying tt=F .string:=by kernel_rfl) (hg:Cv ops.toList l gd=F true:=by rfl):Rj P n ds d ops K (i::pl) pend S l:=
 R.takeP ho hg rfl (by
  rw[if_pos rfl];intro a w ha;subst hm;have:=run_slice_string_to_if (P:=P) w tt s .i64 (k:Int) hu;have h1:=ha.ev hx;have h2:=ha.ev hy;generalize a.eval=ρ at h1 h2 |-;simp[go_sem,h1,h2,this,hk,run_sliceAt_string w tt _ _ _ _ hu]) h
end
end
section
structure Qz (M M2:Nat) (x:Nd):Prop where
 keys:x.keys.length<=M
 kids:x.kids.length<=M
 str:x.x.str.size<=M2/\∀ y∈x.keys,y.str.size<=M2
theorem Aen {M M2:Nat} {s:St} {a:Nat} {v:Int} (h:∀ x∈s.nodes,Qz M M2 x) (ha:∀ x,s.nodes[a]? =F x->x.kids.length+1<=M):∀ x∈(s.kid a v).nodes,Qz M M2 x:=by
 intro x hx;obtain⟨i,hi⟩:=List.mem_iff_getElem?.1 hx;rw[Fw] at hi;split at hi
 ·rename_i e;subst e;cases hs:s.nodes[i]? with
  | none=>rw[hs] at hi;cases hi
  | some y=>
   rw[hs] at hi;cases hi
   have hy:=h y (List.mem_of_getElem? hs);exact⟨hy.keys,by have:=ha y hs;rw[List.length_append];exact this,hy.str⟩
 ·exact h x (List.mem_of_getElem? hi)
mutual
theorem SM (chk:Tr->Int->St->Int) {M M2:Nat}:∀ (t:Tr) (deep:Int) (s:St),Sm M t->E5 M2 t->(∀ x∈s.nodes,Qz M M2 x)->∀ x∈(Cy chk deep t s).1.nodes,Qz M M2 x
 | .mk k nm x ks ts,deep,s,h1,h2,h=>by
  unfold Sm at h1;unfold E5 at h2;unfold Cy;split
  ·split
   ·exact h
   ·have hn:∀ y∈(s.node k nm x ks).nodes,Qz M M2 y:=fun y hy=>by
     rcases List.mem_append.1 (show y∈s.nodes++[⟨k,x,ks,[]⟩] from hy) with hy | hy
     ·exact h y hy
     ·rw[List.mem_singleton.1 hy];exact⟨h1.1,Nat.zero_le _,h2.2.1,h2.2.2.1⟩
    have hg:(s.node k nm x ks).nodes[s.nodes.length]? =F ⟨k,x,ks,[]⟩:=by show(s.nodes++[_])[_]? =_;rw[List.getElem?_append_right Nr,Nat.sub_self];rfl
    have:=Aaj chk ts deep s.nodes.length (s.node k nm x ks) h1.2.2 h2.2.2.2 hn (fun y hy=>by rw[hg] at hy;cases hy;simpa using h1.2.1) (by show _<(s.nodes++[_]).length;simp);dsimp only
    split<;>exact this
  ·exact h
theorem Aaj (chk:Tr->Int->St->Int) {M M2:Nat}:∀ (ts:List Tr) (deep:Int) (a:Nat) (s:St),Sm.SmTs M ts->E5.SzTs M2 ts->(∀ x∈s.nodes,Qz M M2 x)->(∀ x,s.nodes[a]? =F x->x.kids.length+ts.length<=M)->a<s.nodes.length->∀ x∈(EJ chk deep a ts s).1.nodes,Qz M M2 x
 | [],deep,a,s,_,_,h,_,_=>by unfold EJ;exact h
 | t::r,deep,a,s,h1,h2,h,ha,hlt=>by
  unfold Sm.SmTs at h1;unfold E5.SzTs at h2;have hq:=SM chk t (deep+1) s h1.1 h2.1 h;obtain⟨k1,k2⟩:=Fj chk t (deep+1) s;have ha2:∀ x,(Cy chk (deep+1) t s).1.nodes[a]? =F x->x.kids.length+1<=M:=fun x hx=>by
   rw[k2 a hlt] at hx;have:=ha x hx;rw[List.length_cons] at this;omega
  have hk:=fun v=>Aen (v:=v) hq ha2;unfold EJ;dsimp only
  split
  ·refine Aaj chk r deep a _ h1.2 h2.2 (hk _) (fun x hx=>?_) (by rw[DE];omega);rw[Fw,if_pos rfl,k2 a hlt] at hx;cases hs:s.nodes[a]? with
   | none=>rw[hs] at hx;cases hx
   | some y=>
    rw[hs] at hx;cases hx
    have:=ha y hs;simp only[List.length_cons] at this;rw[List.length_append,List.length_singleton];omega
  ·exact hk _
end
end
section
theorem UQ {g:Gf} (h:Ji Ap g):IZ Ap g=(0,0):=by
 have h1:=h.root;have h2:=h.pos;have h3:=h.len;unfold IZ;rw[if_neg (by omega),if_neg (by omega)];have:(List.range g.nodes.length).find? (fun i=> !Fb Ap g.nodes.length (g.nodes.getD i ⟨0,A4,[],[]⟩))=O:=by
  rw[List.find?_eq_none];intro i hi;have hi:=List.mem_range.1 hi;rw[List.getD,List.getElem?_eq_getElem hi];simp[h.ok _ (List.getElem_mem hi)]
 rw[this]
theorem J9 {rt:Sc->Bool} {n:Nat} {x:Nd} (h:Fb rt n x=true):x.keys.Nodup:=by
 unfold Fb at h;split at h
 ·simp only[Bool.and_eq_true,decide_eq_true_eq] at h;rw[List.eq_nil_of_length_eq_zero h.1.2];exact List.nodup_nil
 ·split at h
  ·simp only[Bool.and_eq_true,decide_eq_true_eq] at h;rw[List.eq_nil_of_length_eq_zero h.1.2];exact List.nodup_nil
  ·split at h
   ·simp only[Bool.and_eq_true,decide_eq_true_eq] at h;exact h.1.2.2
   ·cases h
theorem CG {s:List UInt8} (h:(Am A6 100000 s).2.2=0):Ji Ap (Am A6 100000 s).1:=by
 unfold Am at h |-;split
 ·rename_i e;rw[if_pos e] at h;exact absurd h e
 ·rename_i e;rw[if_neg e] at h;exact M9 h
theorem Ly {g:Gf} (h:Ji Ap g):VK g.nodes:=fun x hx k hk=>by
 obtain⟨a,b,_⟩:=GM (h.ok x hx) k hk;exact⟨a,b⟩
theorem JK {g:Gf} (h:Ji Ap g):OkG g:=⟨Ly h,by rw[h.root];have:=h.pos;omega,h.len⟩
end
section
set_option maxRecDepth 100000
end
section
set_option maxRecDepth 100000
end
section
set_option maxRecDepth 100000
section
variable {P:Program} {n:Nat} {ds:List Deferred} {d:Bool} {ops:Array Oper} {K:Act->Y->Prop} {i:Nat} {pl pend:List Nat} {S:Y->Prop} {l:Env} {t:Nat} {ty:TypeId} {ps:String} {af:Array Edge} {gd:Option (Nat×Bool)} {C:Nat->Prop} {w0 w:Y} {X Yz:Aj} {Zz:List Aj}
end
end
section
set_option maxRecDepth 100000
end
section
set_option maxRecDepth 100000
end
section
set_option maxRecDepth 100000
end
section
set_option maxRecDepth 100000
open Go.ChangeShapes Go.WideShapes Go.RowKit Go.Lib Go.Shelf
def ren:Ren:=⟨fun x=>x,fun x=>if x=5 then 5 else if x=119 then 246 else if x=138 then 248 else if x=139 then 249 else x,
 fun x=>if x=3 then 2 else if x=4 then 3 else x⟩
theorem Ac6:U8Types Tryz.prog ren:=⟨by kernel_rfl,by kernel_rfl,by kernel_rfl,by kernel_rfl⟩
theorem Ab1:U8Extra Tryz.prog ren:=⟨by kernel_rfl,by kernel_rfl,by kernel_rfl,by kernel_rfl,by kernel_rfl,by kernel_rfl,by kernel_rfl⟩
theorem Mb {W:Y} (h:VarReads Tryz.prog W "internal/strconv.uint64pow10" (tabData .u64 pow10Tab)):TabIs Tryz.prog W "internal/strconv.uint64pow10" .u64 pow10Tab:=by
 obtain⟨g,t,cs,fuel,p,hg,hty,hvar,hd⟩:=h;obtain rfl:=Option.some.inj ((show Tryz.prog.globalNamed "internal/strconv.uint64pow10"=F 7 by kernel_rfl).symm.trans hg);obtain rfl:=Option.some.inj ((show(Tryz.prog.globals[7]?).map (·.type)=F 386 by kernel_rfl).symm.trans hty);unfold TabIs;rw[hvar,<- cells_of_tab (show Tryz.prog.underlying 386=F (.array 20 350) by kernel_rfl) (show Tryz.prog.underlying 350=F (.int .u64) by kernel_rfl) (by kernel_rfl) (by kernel_rfl) hd]
theorem IJ {W:Y} {n nm:String} {d:DataW Unit} {g:Nat} (h:VarReads Tryz.prog W n (.iface nm d)) (hg:Tryz.prog.globalNamed n=F g) (ht:(Tryz.prog.globals[g]?).map (·.type)=F 61):
  ∃ te pe,W.cell? ⟨g,0,O⟩=F (.iface te pe):=by
 obtain⟨g',t,cs,fuel,p,hg',hty,hvar,hd⟩:=h;obtain rfl:=Option.some.inj (hg.symm.trans hg');obtain rfl:=Option.some.inj (ht.symm.trans hty);obtain⟨_,u,v,hcs,_⟩:=iface_of_trod Tryz.underlying61 hd;have:=World.var?_cell hg hvar 0;refine⟨u,v,?_⟩;rw[this,<- Array.getElem?_toList,hcs];rfl
theorem MK {W:Y} {d1 d2:DataW Unit} {n1 n2:String} (h1:VarReads Tryz.prog W "unicode/utf8.first" firstData) (h2:VarReads Tryz.prog W "unicode/utf8.acceptRanges" acceptData)
  (h3:VarReads Tryz.prog W "internal/strconv.uint64pow10" (tabData .u64 pow10Tab)) (h4:VarReads Tryz.prog W "strconv.ErrSyntax" (.iface n1 d1)) (h5:VarReads Tryz.prog W "strconv.ErrRange" (.iface n2 d2)):Bf W:=by
 have ht:=Mb h3;have hc:=ht.cell (show Tryz.prog.globalNamed "internal/strconv.uint64pow10"=F 7 by kernel_rfl) 0 (by decide);exact⟨Ic hc,utf8Tabs_of_readsT Ac6 Ab1 h1 h2,ht,IJ h4 (by kernel_rfl) (by kernel_rfl),IJ h5 (by kernel_rfl) (by kernel_rfl)⟩
theorem own:ownKnob Tryz.prog.godebug=O:=by kernel_rfl
noncomputable def Xj (os:Os):Y:=
 let w0:=World.holding Tryz.prog os ⟨#[],#[],[]⟩
 let put (h:Array Obj) (g:Nat) (cs:Array Value):Array Obj:=h.modify g fun
  | .cells _ t frozen=>.cells cs t frozen
  | o=>o
 let h0:=put w0.heap 2 (Lib.firstTab.map fun z=>Value.int .u8 z).toArray
 let h1:=put h0 3 ((List.range 16).flatMap fun i=>[Value.int .u8 (Lib.accLo i),Value.int .u8 (Lib.accHi i)]).toArray
 let h2:=put h1 5 #[.iface 382 (.pointer (F ⟨w0.heap.size,0,O⟩))]
 let h3:=put h2 6 #[.iface 382 (.pointer (F ⟨w0.heap.size+1,0,O⟩))]
 let h4:=put h3 7 (Lib.pow10Tab.map fun z=>Value.int .u64 z).toArray
 let h5:=put h4 8 ([0,1,28,2,29,14,24,3,30,22,20,15,25,17,4,8,31,27,13,23,21,19,16,7,26,12,18,6,11,5,10,9].map fun z=>Value.int .u8 z).toArray
 let h6:=put h5 9 ([0,1,56,2,57,49,28,3,61,58,42,50,38,29,17,4,62,47,59,36,45,43,51,22,53,39,33,30,24,18,12,5,63,55,48,27,60,41,37,16,46,35,44,21,52,32,23,11,54,26,40,15,34,20,31,10,25,14,19,9,13,8,7,6].map fun z=>Value.int .u8 z).toArray
 let h6:=put h6 0 #[.iface 233 (.agg #[.pointer (F ⟨10,61,O⟩)])]
 let h6:=put h6 1 #[.iface 382 (.pointer (F ⟨w0.heap.size+2,0,O⟩))]
 let h7:=h6.push (.cells #[Q ⟨#[105,110,118,97,108,105,100,32,115,121,110,116,97,120]⟩] 384 (0,0))
 let h8:=h7.push (.cells #[Q ⟨#[118,97,108,117,101,32,111,117,116,32,111,102,32,114,97,110,103,101]⟩] 384 (0,0))
 let h9:=h8.push (.cells #[Q ⟨#[110,111,32,103,114,97,112,104]⟩] 384 (0,0))
 {w0 with heap:=h9}
theorem WC {W:Y} (h:laidMetH Tryz.prog Rows.loadNotesRow.laid W):Bf W:=by
 have h':laidMet Tryz.prog (Rows.loadNotesRow.laid.filter fun x=>x.2.handleName?.isNone) W/\handlesMet Tryz.prog _ W:=h;exact MK (n1:= "*errors.errorString") (n2:= "*errors.errorString") (d1:=.ptr (.agg [.lit (.string [105,110,118,97,108,105,100,32,115,121,110,116,97,120])])) (d2:=.ptr (.agg [.lit (.string [118,97,108,117,101,32,111,117,116,32,111,102,32,114,97,110,103,101])])) (laidMet.reads h'.1 (List.mem_of_getElem? (i:=7) (by kernel_rfl))) (laidMet.reads h'.1 (List.mem_of_getElem? (i:=3) (by kernel_rfl))) (laidMet.reads h'.1 (List.mem_of_getElem? (i:=2) (by kernel_rfl))) (laidMet.reads h'.1 (List.mem_of_getElem? (i:=5) (by kernel_rfl))) (laidMet.reads h'.1 (List.mem_of_getElem? (i:=4) (by kernel_rfl)))
theorem et:Tryz.prog.globalNamed "errors.errorType"=F 0:=by kernel_rfl
theorem rt:(Tryz.prog.cutTypes.find? (·.1== "internal/reflectlite.rtype")).map (·.2)=F 233:=by kernel_rfl
theorem Ahd:((List.range Tryz.prog.types.size).filter fun t=>Tryz.prog.rowNamed t [101,114,114,111,114])=[61]:=by kernel_rfl
theorem SN {W:Y} (h:laidMetH Tryz.prog Rows.loadNotesRow.laid W):Gc W:=by
 have h':laidMet Tryz.prog (Rows.loadNotesRow.laid.filter fun x=>x.2.handleName?.isNone) W/\handlesMet Tryz.prog [("errors.errorType",Rows.laid_errors_errorType)] W:=h;obtain⟨name,u,ty,e1,e2,e3,e4,e5⟩:=h'.2 _ (List.mem_singleton.2 rfl);have en:name=[101,114,114,111,114]:=(Option.some.inj e1).symm;subst en;obtain rfl:=Option.some.inj (rt.symm.trans e2);have hm:ty∈(List.range Tryz.prog.types.size).filter fun t=>Tryz.prog.rowNamed t [101,114,114,111,114]:=List.mem_filter.2 ⟨List.mem_range.2 e3,e4⟩;rw[Ahd] at hm;obtain rfl:=List.mem_singleton.1 hm;have hh:typeHandle Tryz.prog 61=.pointer (F ⟨10,61,O⟩):=by kernel_rfl
 rw[hh] at e5;simpa[Gc] using World.var?_cell et e5 0
theorem Zs: "*"++ "errors.errorString"= "*errors.errorString":=by decide
theorem Ah3 (u:TypeId) (h:Tryz.prog.typeName? 3 u=F "*errors.errorString"):u=382:=
 typeName_ptr_named (nm:= "errors.errorString") (by rw[Zs];kernel_rfl) (by kernel_rfl) (by decide) u (by rw[Zs];exact h)
theorem WT {W:Y} (h:laidMetH Tryz.prog Rows.loadNotesRow.laid W):∃ p,Ea.ErrS W p:=by
 have h':laidMet Tryz.prog (Rows.loadNotesRow.laid.filter fun x=>x.2.handleName?.isNone) W/\handlesMet Tryz.prog [("errors.errorType",Rows.laid_errors_errorType)] W:=h;have hg:Tryz.prog.globalNamed "sigillary/compose.errTree"=F 1:=by kernel_rfl
 obtain⟨a,s,hv,_⟩:=laid_sentinel (n:= "sigillary/compose.errTree") (nm:= "*errors.errorString") (text:=[110,111,32,103,114,97,112,104]) (tp:=382) (te:=384) (ts:=9) (ti:=61) h'.1.tail.tail.tail.tail.tail.tail hg (by kernel_rfl) Tryz.underlying61 Ah3 Tryz.underlying382 Tryz.underlying384 rfl rfl Tryz.underlying9 (by kernel_rfl) (by kernel_rfl);exact⟨a,by simpa[Ea.ErrS,Ea.etV] using World.var?_cell hg hv 0⟩
theorem Ajx {W:Y} (h:laidMetH Tryz.prog Rows.loadNotesRow.laid W) (hs:W.ShapedOpen Tryz.prog):FI W:=⟨WC h,SN h,MB.of_shaped hs,WT h⟩
theorem Aj0 (os:Os) (args:Array Value):laidMetH Tryz.prog Rows.loadNotesRow.laid ((Xj os).forCall (fun _ _=>0) ⟨#[],args,[]⟩).memory:=
 laidMetH_of_parts (laidMet_of_run' 8 (by kernel_rfl) (by kernel_rfl)) (by kernel_rfl)
end
section
open Go
theorem Akh:laidOutB Tryz.prog=true:=by kernel_rfl
theorem Akm:mapsRowed Tryz.prog=true:=by kernel_rfl
end
end Go.Proofs.YtdpppepmkeinaaaGreatDoor
