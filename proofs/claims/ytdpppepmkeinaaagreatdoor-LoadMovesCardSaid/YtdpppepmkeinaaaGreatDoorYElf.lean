import Derived.Test.YtdpppepmkeinaaaGreatDoorYh
import Derived.Test.YtdpppepmkeinaaaGreatDoorYm
import Derived.Test.YtdpppepmkeinaaaGreatDoorYu
import Derived.Test.YtdpppepmkeinaaaGreatDoorYl
import Derived.Test.YtdpppepmkeinaaaGreatDoorYv
import Derived.Test.YtdpppepmkeinaaaGreatDoorYxe
import Derived.Test.YtdpppepmkeinaaaGreatDoorYxf
import Derived.Test.YtdpppepmkeinaaaGreatDoorYxh
import Derived.Test.YtdpppepmkeinaaaGreatDoorYxj
import Derived.Test.YtdpppepmkeinaaaGreatDoorYp
import Derived.Test.YtdpppepmkeinaaaGreatDoorYxi
import Derived.Test.YtdpppepmkeinaaaGreatDoorYxm
import Derived.Test.YtdpppepmkeinaaaGreatDoorYxs
import Derived.Test.YtdpppepmkeinaaaGreatDoorYt
import Derived.Test.YtdpppepmkeinaaaGreatDoorProg
import Derived.Test.YtdpppepmkeinaaaGreatDoorYxo
import Derived.Test.YtdpppepmkeinaaaGreatDoorYx
/- What is proved: the law returns true whatever comes in; no condition beside those that each theorem names. -/
namespace Go.Proofs.YtdpppepmkeinaaaGreatDoor
set_option maxHeartbeats 32000000
open Go Go.RowKit Go.Lib
open Go.Value renaming int->I,string->Q,slice->Z
open Go.IntKind renaming i64->J
open Option renaming none->O,some->F
open _root_.Go renaming World->Y
set_option linter.unusedSimpArgs false
set_option linter.unusedVariables false
open Go Go.Lib
set_option linter.unusedSectionVars false
open Go
open Go Go.RowKit
set_option maxRecDepth 100000
section
theorem QW (n:Nat):validD (List.replicate n 32)=true:=by
 induction n with
 | zero=>rfl
 | succ n ih=>rw[List.replicate_succ,validD_cons _ _ (by decide)];exact ih
theorem TE (l:List UInt8):Ag (32::l)=32::Ag l:=by
 rw[Av (32::l) (by simp),decodeL_ascii 32 l (by decide)];rfl
theorem PQ (n:Nat) (l:List UInt8):(Ag (List.replicate n 32++l)).all Ac=(Ag l).all Ac:=by
 induction n with
 | zero=>rfl
 | succ n ih=>rw[List.replicate_succ,List.cons_append,TE,List.all_cons,ih];rfl
theorem LS (n:Nat) (l:List UInt8):validD (List.replicate n 32++l)=validD l:=Bj _ _ l Nr (QW n)
end
section
section num
variable {κ:Type} [DecidableEq κ]
theorem GH {x y:κ} {v:Int}:∀ {m:List (κ×Int)},AT y (mput x v m)=if x=y then F v else AT y m
 | []=>by simp[mput,AT]
 | (z,u)::r=>by
  unfold mput;by_cases e:z=x
  ·rw[if_pos e];subst e;by_cases h:z=y<;>simp[AT,h]
  ·rw[if_neg e];unfold AT;rw[GH];by_cases h:z=y
   ·rw[if_pos h,if_pos h,if_neg (by rw[<- h];exact fun h=>e h.symm)]
   ·rw[if_neg h,if_neg h]
end num
end
section
def IS (k j:Int) (x:En):En:=⟨x.no+j,x.col+k,x.l⟩
def Ui (k j:Int):BR->BR
 | .ok t rest=>.ok t (rest.map (IS k j))
 | .bad no e=>.bad (no+j) e
 | .out=>.out
theorem Xv (k j no:Int) (l:List C8) (d:Nat) (rest:List En):C9 (no+j) l d (rest.map (IS k j))=Ui k j (C9 no l d rest):=by
 unfold C9
 repeat (split;· rfl)
 rfl
theorem Xo (k j no:Int) (s:List UInt8) (b:BR):G9 (no+j) s (Ui k j b)=Ui k j (G9 no s b):=by
 cases b with
 | ok t rest=>unfold Ui G9;simp only;split<;>rfl
 | bad n e=>rfl
 | out=>rfl
theorem Td (k j col:Int) (t:Tr) (x:En) (r:List En):Dz (col+k) t (IS k j x) (r.map (IS k j))=Ui k j (Dz col t x r):=by
 unfold Dz IS;simp only
 by_cases h1:x.col<col
 ·rw[if_pos h1,if_pos (by omega)];rfl
 ·rw[if_neg h1,if_neg (by omega)];by_cases h2:col<x.col
  ·rw[if_pos h2,if_pos (by omega)];rfl
  ·rw[if_neg h2,if_neg (by omega)];rfl
theorem ZP (k j:Int) (x:En):FO (IS k j x)=IS k j (FO x):=by
 unfold FO IS;simp only[En.mk.injEq,true_and,and_true]
 omega
theorem shift (k j:Int):∀ n,(∀ m d l,AF n (m+k) d (l.map (IS k j))=Ui k j (AF n m d l))/\(∀ no m d l,belowB n (no+j) (m+k) d (l.map (IS k j))=Ui k j (belowB n no m d l))∧
  (∀ d x r,B2 n d (IS k j x) (r.map (IS k j))=Ui k j (B2 n d x r))/\(∀ col d l acc,BK n (col+k) d (l.map (IS k j)) acc=Ui k j (BK n col d l acc))∧
  (∀ d x r,B8 n d (IS k j x) (r.map (IS k j))=Ui k j (B8 n d x r))/\(∀ col d l ks ts,AL n (col+k) d (l.map (IS k j)) ks ts=Ui k j (AL n col d l ks ts))
 | 0=>by refine⟨?_,?_,?_,?_,?_,?_⟩<;>intros<;>simp only[AF,belowB,B2,BK,B8,AL,Ui]
 | n+1=>by
  obtain⟨hN,hB,hI,hS,hP,hD⟩:=shift k j n;refine⟨fun m d l=>?_,fun no m d l=>?_,fun d x r=>?_,fun col d l acc=>?_,fun d x r=>?_,fun col d l ks ts=>?_⟩
  ·cases l with
   | nil=>simp only[List.map_nil,AF,Ui]
   | cons x r=>
    rw[List.map_cons,AF,AF];simp only[show(IS k j x).l=x.l from rfl,show(IS k j x).no=x.no+j from rfl,show(IS k j x).col=x.col+k from rfl]
    by_cases hd:24<d
    ·rw[if_pos hd,if_pos hd];rfl
    ·rw[if_neg hd,if_neg hd];cases Ck x.l with
     | dash=>exact hS _ _ (x::r) _
     | key=>exact hD _ _ (x::r) _ _
     | name s=>simp only;rw[hB,Xo]
     | plain=>exact Xv _ _ _ _ _ _
  ·cases l with
   | nil=>rw[List.map_nil,belowB,belowB];split<;>rfl
   | cons x r=>
    rw[List.map_cons,belowB,belowB];simp only[show(IS k j x).col=x.col+k from rfl]
    by_cases h1:m<x.col
    ·rw[if_pos h1,if_pos (by omega)];exact hN m d (x::r)
    ·rw[if_neg h1,if_neg (by omega)];by_cases hd:24<d
     ·rw[if_pos hd,if_pos hd];rfl
     ·rw[if_neg hd,if_neg hd];rfl
  ·rw[B2,B2];simp only[show(IS k j x).l=x.l from rfl,show(IS k j x).no=x.no+j from rfl,show(IS k j x).col=x.col+k from rfl,ZP]
   split
   ·exact hB _ _ _ _
   ·exact hN _ d (FO x::r)
  ·cases l with
   | nil=>simp only[List.map_nil,BK,Ui]
   | cons x r=>
    rw[List.map_cons,BK,BK];simp only[show(IS k j x).l=x.l from rfl,show(IS k j x).col=x.col+k from rfl]
    by_cases h1:x.col=col/\Ck x.l=.dash
    ·rw[if_pos h1,if_pos ⟨by omega,h1.2⟩,hI];cases B2 n (d+1) x r with
     | ok t rest=>exact hS _ _ _ _
     | bad no e=>rfl
     | out=>rfl
    ·rw[if_neg h1,if_neg (fun h=>h1 ⟨by omega,h.2⟩)];exact Td _ _ _ _ _ _
  ·rw[B8,B8];simp only[show(IS k j x).l=x.l from rfl,show(IS k j x).no=x.no+j from rfl,show(IS k j x).col=x.col+k from rfl]
   cases Ck (x.l.drop 2) with
   | name s=>simp only;rw[hB,Xo]
   | _=>
    simp only
    split
    ·exact hB _ _ _ _
    ·exact Xv _ _ _ _ _ _
  ·cases l with
   | nil=>simp only[List.map_nil,AL,Ui]
   | cons x r=>
    rw[List.map_cons,AL,AL];simp only[show(IS k j x).l=x.l from rfl,show(IS k j x).col=x.col+k from rfl,show(IS k j x).no=x.no+j from rfl]
    by_cases h1:x.col=col/\Ck x.l=.key
    ·rw[if_pos h1,if_pos ⟨by omega,h1.2⟩];split
     ·rfl
     ·rw[hP];cases B8 n (d+1) x r with
      | ok t rest=>exact hD _ _ _ _ _
      | bad no e=>rfl
      | out=>rfl
    ·rw[if_neg h1,if_neg (fun h=>h1 ⟨by omega,h.2⟩)];exact Td _ _ _ _ _ _
theorem Aav {m m':Int}:∀ n,(∀ d l,(∀ x∈l,m<x.col↔m'<x.col)->AF n m d l=AF n m' d l)/\(∀ no d l,(∀ x∈l,m<x.col↔m'<x.col)->belowB n no m d l=belowB n no m' d l)
 | 0=>by refine⟨?_,?_⟩<;>intros<;>simp only[AF,belowB]
 | n+1=>by
  obtain⟨hN,hB⟩:=Aav (m:=m) (m':=m') n;refine⟨fun d l h=>?_,fun no d l h=>?_⟩
  ·cases l with
   | nil=>simp only[AF]
   | cons x r=>
    rw[AF,AF];split
    ·rfl
    ·cases Ck x.l with
     | name s=>simp only;rw[hB _ _ _ (fun y hy=>h y (List.mem_cons_of_mem _ hy))]
     | _=>rfl
  ·cases l with
   | nil=>simp only[belowB]
   | cons x r=>
    rw[belowB,belowB];by_cases h1:m<x.col
    ·rw[if_pos h1,if_pos ((h x List.mem_cons_self).1 h1)];exact hN _ _ h
    ·rw[if_neg h1,if_neg (fun h2=>h1 ((h x List.mem_cons_self).2 h2))]
end
section
def Dp (d:Nat) (b b':BR):Prop:=match b with
 | .ok t rest=>d+Ad t<=25/\((d+1+Ad t<=25/\b'=.ok t rest)\/(25<d+1+Ad t/\∃ no,b'=.bad no 73))
 | .bad _ e=>e≠0/\∃ no e',b'=.bad no e'/\e'≠0
 | .out=>True
def Dq (d:Nat) (T:List Sc->List Tr->Tr) (b b':BR):Prop:=match b with
 | .ok t rest=>∃ ks ts,t=T ks ts/\(ts=[]\/d+1+Ad.deepTs ts<=25)/\(((ts=[]\/d+2+Ad.deepTs ts<=25)/\b'=.ok t rest)\/(ts≠[]/\25<d+2+Ad.deepTs ts/\∃ no,b'=.bad no 73))
 | .bad _ e=>e≠0/\∃ no e',b'=.bad no e'/\e'≠0
 | .out=>True
theorem Acw (no:Int) (l:List C8) (d:Nat) (r:List En):Dp d (C9 no l d r) (C9 no l (d+1) r):=by
 have hp:=CL (Bl (IT l)).1;by_cases h1:24<d
 ·have e1:C9 no l d r=.bad no 73:=by unfold C9;rw[if_pos h1]
  have e2:C9 no l (d+1) r=.bad no 73:=by unfold C9;rw[if_pos (by omega)]
  rw[e1,e2];exact⟨by decide,no,73,rfl,by decide⟩
 ·by_cases h2:(Bl (IT l)).2≠0
  ·have e1:C9 no l d r=.bad no (Bl (IT l)).2:=by unfold C9;rw[if_neg h1,if_pos h2]
   rw[e1];refine⟨h2,?_⟩;unfold C9;by_cases h5:24<d+1
   ·rw[if_pos h5];exact⟨no,73,rfl,by decide⟩
   ·rw[if_neg h5,if_pos h2];exact⟨no,_,rfl,h2⟩
  ·by_cases h3:24<Ad (Bl (IT l)).1+d - 1
   ·have e1:C9 no l d r=.bad no 73:=by unfold C9;rw[if_neg h1,if_neg h2,if_pos h3]
    rw[e1];refine⟨by decide,no,73,?_,by decide⟩;unfold C9;by_cases h5:24<d+1
    ·rw[if_pos h5]
    ·rw[if_neg h5,if_neg h2,if_pos (by omega)]
   ·have e1:C9 no l d r=.ok (Bl (IT l)).1 r:=by unfold C9;rw[if_neg h1,if_neg h2,if_neg h3]
    rw[e1];refine⟨by omega,?_⟩;unfold C9;by_cases h4:d+1+Ad (Bl (IT l)).1<=25
    ·exact .inl ⟨h4,by rw[if_neg (by omega),if_neg h2,if_neg (by omega)]⟩
    ·refine .inr ⟨by omega,no,?_⟩;by_cases h5:24<d+1
     ·rw[if_pos h5]
     ·rw[if_neg h5,if_neg h2,if_pos (by omega)]
theorem Z4 (no:Int) (s:List UInt8) (d:Nat) {b b':BR} (h:Dp d b b'):Dp d (G9 no s b) (G9 no s b'):=by
 cases b with
 | out=>exact trivial
 | bad n e=>
  obtain⟨h1,no',e',rfl,h2⟩:=h;exact⟨h1,no',e',rfl,h2⟩
 | ok t rest=>
  obtain⟨h1,h2⟩:=h;unfold G9;try simp only
  by_cases hk:t.kind=3\/t.nm≠⟨#[]⟩
  ·rw[if_pos hk];refine⟨by decide,?_⟩;rcases h2 with ⟨_,rfl⟩ | ⟨_,n',rfl⟩
   ·exact⟨no,93,by simp only;rw[if_pos hk],by decide⟩
   ·exact⟨n',73,rfl,by decide⟩
  ·rw[if_neg hk];refine⟨by rw[D2];exact h1,?_⟩;rw[D2];rcases h2 with ⟨h3,rfl⟩ | ⟨h3,n',rfl⟩
   ·exact .inl ⟨h3,by simp only;rw[if_neg hk]⟩
   ·exact .inr ⟨h3,n',rfl⟩
theorem Rc {d:Nat} {no e no' e':Int} (h:e≠0) (h':e'≠0):Dp d (.bad no e) (.bad no' e'):=⟨h,no',e',rfl,h'⟩
theorem Aao {d:Nat} {no:Int} {r:List En}:Dp d (if 24<d then .bad no 73 else .ok Ei r) (if 24<d+1 then .bad no 73 else .ok Ei r):=by
 by_cases h:24<d
 ·rw[if_pos h,if_pos (by omega)];exact Rc (by decide) (by decide)
 ·rw[if_neg h];refine⟨by rw[Fb];omega,?_⟩;rw[Fb];by_cases h2:24<d+1
  ·rw[if_pos h2];exact .inr ⟨by omega,no,rfl⟩
  ·rw[if_neg h2];exact .inl ⟨by omega,rfl⟩
theorem X1 (d:Nat) (T:List Sc->List Tr->Tr) (col:Int) (x:En) (r:List En):Dq d T (Dz col (T [] []) x r) (Dz col (T [] []) x r):=by
 unfold Dz;split
 ·exact⟨[],[],rfl,.inl rfl,.inl ⟨.inl rfl,rfl⟩⟩
 ·split
  ·exact⟨by decide,_,_,rfl,by decide⟩
  ·exact⟨by decide,_,_,rfl,by decide⟩
theorem Xr {d:Nat} {T:List Sc->List Tr->Tr} {x:Sc} {b b':BR} (h:Dp (d+1) b b') (f f':Tr->List En->BR)
  (hf:∀ t rest,b=.ok t rest->Dq d (fun ks ts=>T (x::ks) (t::ts)) (f t rest) (f' t rest)):
  Dq d T (b.bind f) (b'.bind f'):=by
 cases b with
 | out=>exact trivial
 | bad n e=>
  obtain⟨h1,no',e',rfl,h2⟩:=h;exact⟨h1,no',e',rfl,h2⟩
 | ok t rest=>
  obtain⟨h1,h2⟩:=h;have h3:=hf t rest rfl;show Dq d T (f t rest) (b'.bind f');revert h3;cases f t rest with
  | out=>exact fun _=>trivial
  | bad n e=>
   rintro⟨g1,no',e',g2,g3⟩;refine⟨g1,?_⟩;rcases h2 with ⟨_,rfl⟩ | ⟨_,n',rfl⟩
   ·exact⟨no',e',g2,g3⟩
   ·exact⟨n',73,rfl,by decide⟩
  | ok u rest2=>
   rintro⟨ks,ts,rfl,g1,g2⟩;refine⟨x::ks,t::ts,rfl,.inr ?_,?_⟩
   ·rw[Am];rcases g1 with rfl | g1
    ·rw[Ap];omega
    ·omega
   ·rcases h2 with ⟨h4,rfl⟩ | ⟨h4,n',rfl⟩
    ·simp only
     rcases g2 with ⟨g3,g4⟩ | ⟨g3,g4,n',g5⟩
     ·refine .inl ⟨.inr ?_,g4⟩;rw[Am];rcases g3 with rfl | g3
      ·rw[Ap];omega
      ·omega
     ·refine .inr ⟨by simp,?_,n',g5⟩;rw[Am];omega
    ·refine .inr ⟨by simp,?_,n',rfl⟩;rw[Am];omega
theorem S0 {d:Nat} {T:List Sc->List Tr->Tr} {no:Int} {b b':BR} (hT:∀ ks ts,Ad (T ks ts)=Ad.deepTs ts+1) (h:Dq d T b b'):
  Dp d (if 24<d then .bad no 73 else b) (if 24<d+1 then .bad no 73 else b'):=by
 by_cases h1:24<d
 ·rw[if_pos h1,if_pos (by omega)];exact Rc (by decide) (by decide)
 ·rw[if_neg h1];cases b with
  | out=>exact trivial
  | bad n e=>
   obtain⟨g1,no',e',g2,g3⟩:=h;refine⟨g1,?_⟩;split
   ·exact⟨no,73,rfl,by decide⟩
   ·exact⟨no',e',g2,g3⟩
  | ok t rest=>
   obtain⟨ks,ts,rfl,g1,g2⟩:=h;refine⟨?_,?_⟩
   ·rw[hT];rcases g1 with rfl | g1
    ·rw[Ap];omega
    ·omega
   ·rw[hT];by_cases h2:24<d+1
    ·rw[if_pos h2];exact .inr ⟨by omega,no,rfl⟩
    ·rw[if_neg h2];rcases g2 with ⟨g3,g4⟩ | ⟨g3,g4,n',g5⟩
     ·refine .inl ⟨?_,g4⟩;rcases g3 with rfl | g3
      ·rw[Ap];omega
      ·omega
     ·exact .inr ⟨by omega,n',g5⟩
theorem Abb:∀ n,(∀ m d l,Dp d (AF n m d l) (AF n m (d+1) l))/\(∀ no m d l,Dp d (belowB n no m d l) (belowB n no m (d+1) l))∧
  (∀ d x r,Dp d (B2 n d x r) (B2 n (d+1) x r))/\(∀ col d l acc,Dq d (fun _ ts=>Bt (acc++ts)) (BK n col d l acc) (BK n col (d+1) l acc))∧
  (∀ d x r,Dp d (B8 n d x r) (B8 n (d+1) x r))/\(∀ col d l ks0 ts0,Dq d (fun ks ts=>BT (ks0++ks) (ts0++ts)) (AL n col d l ks0 ts0) (AL n col (d+1) l ks0 ts0))
 | 0=>by refine⟨?_,?_,?_,?_,?_,?_⟩<;>intros<;>simp only[AF,belowB,B2,BK,B8,AL,Dp,Dq]
 | n+1=>by
  obtain⟨hN,hB,hI,hS,hP,hD⟩:=Abb n;refine⟨fun m d l=>?_,fun no m d l=>?_,fun d x r=>?_,fun col d l acc=>?_,fun d x r=>?_,fun col d l ks0 ts0=>?_⟩
  ·cases l with
   | nil=>simp only[AF,Dp]
   | cons x r=>
    rw[AF,AF];try simp only
    cases Ck x.l with
    | dash=>exact S0 (T:=fun _ ts=>Bt ([]++ts)) (fun ks ts=>by rw[List.nil_append,DJ]) (hS _ _ _ _)
    | key=>exact S0 (T:=fun ks ts=>BT ([]++ks) ([]++ts)) (fun ks ts=>by rw[List.nil_append,List.nil_append,Gg]) (hD _ _ _ _ _)
    | name s=>
     try simp only
     by_cases h1:24<d
     ·rw[if_pos h1,if_pos (by omega)];exact Rc (by decide) (by decide)
     ·rw[if_neg h1];have h3:=Z4 x.no s d (hB x.no m d r);by_cases h2:24<d+1
      ·rw[if_pos h2];revert h3;cases G9 x.no s (belowB n x.no m d r) with
       | out=>exact fun _=>trivial
       | bad no e=>exact fun h=>⟨h.1,x.no,73,rfl,by decide⟩
       | ok t rest=>exact fun h=>⟨h.1,.inr ⟨by have:=CL t;omega,x.no,rfl⟩⟩
      ·rw[if_neg h2];exact h3
    | plain=>
     try simp only
     by_cases h1:24<d
     ·rw[if_pos h1,if_pos (by omega)];exact Rc (by decide) (by decide)
     ·rw[if_neg h1];have h3:=Acw x.no x.l d r;by_cases h2:24<d+1
      ·rw[if_pos h2];revert h3;cases C9 x.no x.l d r with
       | out=>exact fun _=>trivial
       | bad no e=>exact fun h=>⟨h.1,x.no,73,rfl,by decide⟩
       | ok t rest=>exact fun h=>⟨h.1,.inr ⟨by have:=CL t;omega,x.no,rfl⟩⟩
      ·rw[if_neg h2];exact h3
  ·cases l with
   | nil=>rw[belowB,belowB];exact Aao
   | cons x r=>
    rw[belowB,belowB];try simp only
    split
    ·exact hN _ _ _
    ·exact Aao
  ·rw[B2,B2];split
   ·exact hB _ _ _ _
   ·exact hN _ _ _
  ·cases l with
   | nil=>rw[BK,BK];exact⟨[],[],by simp only[List.append_nil],.inl rfl,.inl ⟨.inl rfl,rfl⟩⟩
   | cons x r=>
    rw[BK,BK];try simp only
    split
    ·refine Xr (x:=AJ) (hI (d+1) x r) (fun t rest=>BK n col d rest (acc++[t])) (fun t rest=>BK n col (d+1) rest (acc++[t])) fun t rest _=>?_;have:=hS col d rest (acc++[t]);simpa only[List.append_assoc,List.singleton_append] using this
    ·have:=X1 d (fun _ ts=>Bt (acc++ts)) col x r;simpa only[List.append_nil] using this
  ·rw[B8,B8];split
   ·exact Z4 _ _ _ (hB _ _ _ _)
   ·split
    ·exact hB _ _ _ _
    ·exact Acw _ _ _ _
  ·cases l with
   | nil=>rw[AL,AL];exact⟨[],[],by simp only[List.append_nil],.inl rfl,.inl ⟨.inl rfl,rfl⟩⟩
   | cons x r=>
    rw[AL,AL];try simp only
    split
    ·split
     ·rename_i hk;exact⟨hk,_,_,rfl,hk⟩
     ·refine Xr (x:=(EA x.l).1) (hP (d+1) x r) (fun t rest=>AL n col d rest (ks0++[(EA x.l).1]) (ts0++[t])) (fun t rest=>AL n col (d+1) rest (ks0++[(EA x.l).1]) (ts0++[t])) fun t rest _=>?_;have:=hD col d rest (ks0++[(EA x.l).1]) (ts0++[t]);simpa only[List.append_assoc,List.singleton_append] using this
    ·have:=X1 d (fun ks ts=>BT (ks0++ks) (ts0++ts)) col x r;simpa only[List.append_nil] using this
theorem Full.suffix {r l:List En} (h:Full l) (hs:r<:+l):Full r:=fun x hx=>h x (hs.subset hx)
theorem So {no:Int} {s:List UInt8} {b:BR} (h:b≠ .out):G9 no s b≠ .out:=by
 cases b with
 | ok t rest=>unfold G9;(try simp only);split<;>simp
 | bad n e=>simp[G9]
 | out=>exact absurd rfl h
theorem S3 {no:Int} {l:List C8} {d:Nat} {r:List En}:C9 no l d r≠ .out:=by
 unfold C9;repeat (split;· simp)
 simp
theorem OL {col:Int} {t:Tr} {x:En} {r:List En}:Dz col t x r≠ .out:=by
 unfold Dz;repeat (split;· simp)
 simp
theorem Acc:∀ n,(∀ m d l,Full l->l≠[]->4*E4 l+2<=n->AF n m d l≠ .out)/\(∀ no m d l,Full l->4*E4 l+3<=n->belowB n no m d l≠ .out)∧
  (∀ d x r,Full (x::r)->4*E4 (x::r)<=n->B2 n d x r≠ .out)/\(∀ col d l acc,Full l->4*E4 l+1<=n->BK n col d l acc≠ .out)∧
  (∀ d x r,Full (x::r)->4*E4 (x::r)<=n->B8 n d x r≠ .out)/\(∀ col d l ks ts,Full l->4*E4 l+1<=n->AL n col d l ks ts≠ .out)
 | 0=>⟨fun _ _ _ _ _ h=>by omega,fun _ _ _ _ _ h=>by omega,fun _ x r _ h=>by rw[AG] at h;omega,fun _ _ _ _ _ h=>by omega,fun _ x r _ h=>by rw[AG] at h;omega,fun _ _ _ _ _ _ h=>by omega⟩
 | n+1=>by
  obtain⟨hN,hB,hI,hS,hP,hD⟩:=Acc n;refine⟨fun m d l hf hne hn=>?_,fun no m d l hf hn=>?_,fun d x r hf hn=>?_,fun col d l acc hf hn=>?_,fun d x r hf hn=>?_,fun col d l ks ts hf hn=>?_⟩
  ·cases l with
   | nil=>exact absurd rfl hne
   | cons x r=>
    rw[AG] at hn;rw[AF];try simp only
    split
    ·simp
    ·cases Ck x.l with
     | dash=>exact hS _ _ _ _ hf (by rw[AG];omega)
     | key=>exact hD _ _ _ _ _ hf (by rw[AG];omega)
     | name s=>exact So (hB _ _ _ _ (hf.suffix (List.suffix_cons _ _)) (by omega))
     | plain=>exact S3
  ·cases l with
   | nil=>rw[belowB];(try simp only);split<;>simp
   | cons x r=>
    rw[belowB];try simp only
    split
    ·exact hN _ _ _ hf (by simp) (by omega)
    ·split<;>simp
  ·have hx:=hf x List.mem_cons_self;have hxl:1<=x.l.length:=List.length_pos_iff.2 hx;rw[AG] at hn;rw[B2];split
   ·exact hB _ _ _ _ (hf.suffix (List.suffix_cons _ _)) (by omega)
   ·rename_i h1;have ht:x.l.tail.length=x.l.length - 1:=List.length_tail;refine hN _ _ _ (fun y hy=>?_) (by simp) ?_
    ·rcases List.mem_cons.1 hy with rfl | hy
     ·intro h0;have h0:x.l.tail=[]:=h0;rw[h0] at ht;simp at ht;omega
     ·exact hf y (List.mem_cons_of_mem _ hy)
    ·rw[AG];have:(FO x).l.length=x.l.length - 1:=ht;rw[this];omega
  ·cases l with
   | nil=>rw[BK];simp
   | cons x r=>
    rw[AG] at hn;rw[BK];try simp only
    split
    ·have h1:=hI (d+1) x r hf (by rw[AG];omega);cases hi:B2 n (d+1) x r with
     | out=>exact absurd hi h1
     | bad no e=>simp[BR.bind]
     | ok t rest=>
      have hs:=(suffix n).2.2.1 _ _ _ _ _ hi;have hm:=Hc hs;exact hS _ _ _ _ ((hf.suffix (List.suffix_cons _ _)).suffix hs) (by omega)
    ·exact OL
  ·rw[AG] at hn;rw[B8];split
   ·exact So (hB _ _ _ _ (hf.suffix (List.suffix_cons _ _)) (by omega))
   ·split
    ·exact hB _ _ _ _ (hf.suffix (List.suffix_cons _ _)) (by omega)
    ·exact S3
  ·cases l with
   | nil=>rw[AL];simp
   | cons x r=>
    rw[AG] at hn;rw[AL];try simp only
    split
    ·split
     ·simp
     ·have h1:=hP (d+1) x r hf (by rw[AG];omega);cases hi:B8 n (d+1) x r with
      | out=>exact absurd hi h1
      | bad no e=>simp[BR.bind]
      | ok t rest=>
       have hs:=(suffix n).2.2.2.2.2.1 _ _ _ _ _ hi;have hm:=Hc hs;exact hD _ _ _ _ _ ((hf.suffix (List.suffix_cons _ _)).suffix hs) (by omega)
    ·exact OL
end
section
def shL (k j:Int) (x:IM):IM:=⟨x.no+j,x.ind+k,x.s⟩
def Za.sh (k j:Int):Za->Za
 | .ok es=>.ok (es.map (IS k j))
 | .bad no e=>.bad (no+j) e
theorem Z1 (k j:Int):∀ l:List IM,DW (l.map (shL k j))=(DW l).sh k j
 | []=>rfl
 | x::r=>by
  rw[List.map_cons,DW,DW];simp only[show(shL k j x).s=x.s from rfl,show(shL k j x).no=x.no+j from rfl,show(shL k j x).ind=x.ind+k from rfl]
  split
  ·rfl
  ·rw[Z1 k j r];cases DW r with
   | ok es=>rfl
   | bad no e=>rfl
theorem Fs {l:List IM} (h:∀ x∈l,0<=x.ind/\x.ind<=8000):LF l=DW l:=by
 unfold LF;rw[if_pos];rw[List.all_eq_true];intro x hx;simp[Kq,h x hx]
theorem WR:∀ {l:List IM} {no e:Int},DW l=.bad no e->e≠0
 | [],no,e,h=>by rw[DW] at h;cases h
 | x::r,no,e,h=>by
  rw[DW] at h;split at h
  ·rename_i hne;injection h with _ h;rw[<- h];exact hne
  ·cases hr:DW r with
   | bad no' e'=>rw[hr] at h;injection h with _ h;rw[<- h];exact WR hr
   | ok es=>rw[hr] at h;cases h
theorem Ac8 (k j:Int) (b:BR) (hb:b≠ .out) (h0:∀ no e,b=.bad no e->e≠0):((Hy b).2.2=0/\Hy (Ui k j b)=Hy b/\(Hy b).2.1=0)\/(Hy (Ui k j b)=(Ei,(Hy b).2.1+j,(Hy b).2.2)/\(Hy b).2.2≠0):=by
 cases b with
 | ok t rest=>
  cases rest with
  | nil=>exact .inl ⟨rfl,rfl,rfl⟩
  | cons x r=>exact .inr ⟨rfl,by show(92:Int)≠0;decide⟩
 | bad no e=>exact .inr ⟨rfl,h0 no e rfl⟩
 | out=>exact absurd rfl hb
theorem Aag {Fz:Nat} {l:List IM} (k j:Int) (hk:0<=k) (h:∀ x∈l,0<=x.ind/\x.ind+k<=8000) (hF:∀ es,DW l=.ok es->4*E4 es+2<=Fz):
  ((AZ Fz l).2.2=0/\AZ Fz (l.map (shL k j))=AZ Fz l/\(AZ Fz l).2.1=0)\/(AZ Fz (l.map (shL k j))=(Ei,(AZ Fz l).2.1+j,(AZ Fz l).2.2)/\(AZ Fz l).2.2≠0):=by
 have h1:LF l=DW l:=Fs fun x hx=>by have:=h x hx;omega
 have h2:LF (l.map (shL k j))=(DW l).sh k j:=by
  rw[<- Z1];refine Fs fun x hx=>?_;obtain⟨y,hy,rfl⟩:=List.mem_map.1 hx;have:=h y hy;show 0<=y.ind+k/\y.ind+k<=8000;omega
 unfold AZ;rw[h1,h2];cases ho:DW l with
 | bad no e=>exact .inr ⟨rfl,WR ho⟩
 | ok es=>
  simp only[Za.sh]
  unfold CK;cases es with
  | nil=>exact .inl ⟨rfl,rfl,rfl⟩
  | cons x r=>
   rw[if_neg (by simp),if_neg (by simp)];obtain⟨_,hfull,hcol⟩:=NR ho;have hc:=hcol (-1) (fun y hy=>by have:=h y hy;omega);have hm:AF Fz (-1) 1 ((x::r).map (IS k j))=AF Fz (-1+k) 1 ((x::r).map (IS k j)):=(Aav Fz).1 _ _ (fun y hy=>by
    obtain⟨z,hz,rfl⟩:=List.mem_map.1 hy;have:=hc z hz;show -1<z.col+k↔ -1+k<z.col+k;omega)
   rw[hm,(shift k j Fz).1];refine Ac8 k j _ ((Acc Fz).1 _ _ _ hfull (by simp) (hF _ ho)) (fun no e he=>?_);have hD:=(Abb Fz).1 (-1) 1 (x::r);rw[he] at hD;exact hD.1
end
section
theorem NN {n m:Nat} (h:n<=m) {i:Int} (hi:Oj n i=true):Oj m i=true:=by
 unfold Oj at*
 simp only[Bool.and_eq_true,decide_eq_true_eq] at*
 omega
theorem I1 {n m:Nat} (h:n<=m) {l:List Int} (hl:l.all (Oj n)=true):l.all (Oj m)=true:=by
 rw[List.all_eq_true] at*
 exact fun x hx=>NN h (hl x hx)
theorem Lg {rt:Sc->Bool} {n m:Nat} (h:n<=m) {x:Nd} (hx:G5 rt n x=true):G5 rt m x=true:=by
 unfold G5 at*
 split at hx
 ·rename_i e;rw[if_pos e];exact hx
 ·rename_i e0;rw[if_neg e0];split at hx
  ·rename_i e;rw[if_pos e];rw[Bool.and_eq_true] at hx |-;exact⟨hx.1,I1 h hx.2⟩
  ·rename_i e1;rw[if_neg e1];split at hx
   ·rename_i e;rw[if_pos e];rw[Bool.and_eq_true] at hx |-;exact⟨hx.1,I1 h hx.2⟩
   ·cases hx
structure LK (rt:Sc->Bool) (s s':St) (at_:Nat) (vs:List Int):Prop where
 gd:Ih s'
 le:s.nodes.length<=s'.nodes.length
 old:∀ i,i<s.nodes.length->i≠at_->s'.nodes[i]? =s.nodes[i]?
 at_:s'.nodes[at_]? =(s.nodes[at_]?).map fun n=>{n with kids:=n.kids++vs}
 new:∀ i x,s.nodes.length<=i->s'.nodes[i]? =F x->G5 rt s'.nodes.length x=true
 rng:∀ v∈vs,0<=v/\v<s'.nodes.length
 rch:∀ i,s.nodes.length<=i->i<s'.nodes.length->∃ v∈vs,Rch s'.nodes v.toNat i
theorem BS (s:St) (a:Nat) (v:Int):(s.kid a v).nodes.length=s.nodes.length:=by simp[St.kid]
theorem CW (s:St) (a:Nat) (v:Int) (i:Nat):(s.kid a v).nodes[i]? =if i=a then (s.nodes[i]?).map (fun n=>{n with kids:=n.kids++[v]}) else s.nodes[i]? :=by
 unfold St.kid;rw[List.getElem?_modify];by_cases h:a=i
 ·subst h;simp
 ·rw[if_neg (fun e=>h e.symm)];simp[h]
mutual
theorem K6 {rt:Sc->Bool} {nb:ByteArray->Bool}:∀ (t:Tr) (deep:Int) (s s':St) (v:Int),BO (BY rt nb) deep t s=(s',v,0)->Ih s->LT rt s s' v
 | .mk k nm x ks ts,deep,s,s',v,h,hg=>by
  unfold BO at h;split at h
  ·rename_i hc;obtain⟨_,hsb,hdup,h3,h200⟩:=K4 (show F7 (BD rt (nb nm) k nm x ks ts.length) (!decide ks.Nodup) k deep (AT nm s.names).isSome s.nodes.length=0 from hc);split at h
   ·rename_i hk;obtain⟨u,hu⟩:=Option.isSome_iff_exists.1 (h3 hk);rw[hu] at h;simp only[Prod.mk.injEq] at h;obtain⟨rfl,rfl,_⟩:=h;exact⟨hg,Nat.le_refl _,fun i _=>rfl,fun i x hi hx=>by have:=(List.getElem?_eq_some_iff.1 hx).1;omega,hg.names _ _ hu,fun i h1 h2=>by omega⟩
   ·rename_i hk;dsimp only at h;split at h
    ·rename_i hr;simp only[Prod.mk.injEq] at h;obtain⟨hs',rfl,_⟩:=h;have hlen:s.nodes.length<200:=by have:=hg.len;have:=h200 hk;omega
     have hnl:(s.node k nm x ks).nodes.length=s.nodes.length+1:=by simp[St.node]
     have hg1:Ih (s.node k nm x ks):=by
      refine⟨fun m u hu=>?_,by omega⟩;rw[hnl];unfold St.node at hu;dsimp only at hu;split at hu
      ·have:=hg.names m u hu;omega
      ·rw[GH] at hu;split at hu
       ·cases hu;omega
       ·have:=hg.names m u hu;omega
     obtain⟨vs,hvl,hK⟩:=JJ (rt:=rt) (nb:=nb) ts deep s.nodes.length (s.node k nm x ks) s' (by omega) (by rw[<- hs',<- hr]) hg1;have hat:s'.nodes[s.nodes.length]? =F ⟨k,x,ks,vs⟩:=by
      rw[hK.at_];simp[St.node]
     have hle:=hK.le;have hrg:∀ v∈vs,Oj s'.nodes.length v=true:=fun v hv=>by
      have:=hK.rng v hv;unfold Oj;simp only[Bool.and_eq_true,decide_eq_true_eq];omega
     refine⟨hK.gd,by omega,fun i hi=>?_,fun i y hi hy=>?_,by omega,fun i h1 h2=>?_⟩
     ·rw[hK.old i (by omega) (by omega)];exact List.getElem?_append_left hi
     ·by_cases e:i=s.nodes.length
      ·subst e;rw[hat] at hy;cases hy
       unfold BD Fv at hsb;rw[Bool.and_eq_true] at hsb;have hsb:=hsb.1;have hd:decide ks.Nodup=true:=by simpa using hdup
       have hall:vs.all (Oj s'.nodes.length)=true:=List.all_eq_true.2 hrg;unfold G5;dsimp only
       split at hsb
       ·rename_i e;rw[if_pos e];unfold Nw at hsb;simp only[Bool.and_eq_true,decide_eq_true_eq] at hsb |-;exact⟨hsb.1,by omega⟩
       ·rename_i e;rw[if_neg e];split at hsb
        ·rename_i e;rw[if_pos e];unfold O3 at hsb;simp only[Bool.and_eq_true,decide_eq_true_eq] at hsb |-;exact⟨hsb,hall⟩
        ·rename_i e;rw[if_neg e];split at hsb
         ·rename_i e;rw[if_pos e];unfold Uz at hsb;simp only[Bool.and_eq_true,decide_eq_true_eq] at hsb |-;exact⟨⟨⟨hsb.1.1,by omega⟩,hsb.2,by simpa using hd⟩,hall⟩
         ·first | cases hsb | (rw[if_neg hk] at hsb;cases hsb)
      ·exact hK.new i y (by omega) hy
     ·rw[show((s.nodes.length:Nat):Int).toNat=s.nodes.length by omega];by_cases e:i=s.nodes.length
      ·subst e;exact .refl _
      ·obtain⟨u,hu,hr⟩:=hK.rch i (by omega) h2;exact .step hat hu hr
    ·rename_i hr;simp only[Prod.mk.injEq] at h;exact absurd h.2.2 hr
  ·rename_i hc;simp only[Prod.mk.injEq] at h;exact absurd h.2.2 hc
theorem JJ {rt:Sc->Bool} {nb:ByteArray->Bool}:∀ (ts:List Tr) (deep:Int) (a:Nat) (s s':St),a<s.nodes.length->D3 (BY rt nb) deep a ts s=(s',0)->Ih s->∃ vs:List Int,vs.length=ts.length/\LK rt s s' a vs
 | [],deep,a,s,s',ha,h,hg=>by
  unfold D3 at h;simp only[Prod.mk.injEq] at h;obtain⟨rfl,_⟩:=h;exact⟨[],rfl,hg,Nat.le_refl _,fun i _ _=>rfl,(by cases s.nodes[a]? <;>simp),fun i x hi hx=>by have:=(List.getElem?_eq_some_iff.1 hx).1;omega,fun v hv=>(by cases hv),fun i h1 h2=>(by omega)⟩
 | t::r,deep,a,s,s',ha,h,hg=>by
  unfold D3 at h;dsimp only at h;obtain⟨⟨s1,v,e⟩,hT⟩:∃ q,BO (BY rt nb) (deep+1) t s=q:=⟨_,rfl⟩
  rw[hT] at h;dsimp only at h;split at h
  ·rename_i he;subst he;have h1:=K6 t (deep+1) s s1 v hT hg;have hl:=h1.le;have hg2:Ih (s1.kid a v):=⟨fun nm u hu=>by rw[BS];exact h1.gd.names nm u hu,by rw[BS];exact h1.gd.len⟩
   obtain⟨vs,hvl,h2⟩:=JJ r deep a (s1.kid a v) s' (by rw[BS];omega) h hg2;have hl2:=h2.le;rw[BS] at hl2;have hv:=h1.rng;have hLe:LeN s1.nodes s'.nodes:=fun i x hx=>by
    have hi:=(List.getElem?_eq_some_iff.1 hx).1;by_cases e:i=a
    ·subst e;refine⟨_,by rw[h2.at_,CW,if_pos rfl,hx];rfl,fun k hk=>?_⟩;simp[hk]
    ·exact⟨x,by rw[h2.old i (by rw[BS];exact hi) e,CW,if_neg e,hx],fun k hk=>hk⟩
   refine⟨v::vs,by simp[hvl],h2.gd,by omega,fun i hi hne=>?_,?_,fun i x hi hx=>?_,fun u hu=>?_,fun i hi1 hi2=>?_⟩
   ·rw[h2.old i (by rw[BS];omega) hne,CW,if_neg hne,h1.old i hi]
   ·rw[h2.at_,CW,if_pos rfl,h1.old a ha];cases s.nodes[a]? <;>simp
   ·by_cases hi1:i<s1.nodes.length
    ·rw[h2.old i (by rw[BS];exact hi1) (by omega),CW,if_neg (by omega)] at hx;exact Lg hl2 (h1.new i x hi hx)
    ·exact h2.new i x (by rw[BS];omega) hx
   ·rcases List.mem_cons.1 hu with rfl | hu
    ·omega
    ·exact h2.rng u hu
   ·by_cases hi3:i<s1.nodes.length
    ·exact⟨v,List.mem_cons_self ..,(h1.rch i hi1 hi3).mono hLe⟩
    ·obtain⟨u,hu,hr⟩:=h2.rch i (by rw[BS];omega) hi2;exact⟨u,List.mem_cons_of_mem _ hu,hr⟩
  ·rename_i he;simp only[Prod.mk.injEq] at h;exact absurd h.2 he
end
structure NO (rt:Sc->Bool) (g:Gf):Prop where
 root:g.root=0
 pos:0<g.nodes.length
 len:g.nodes.length<=200
 ok:∀ x∈g.nodes,G5 rt g.nodes.length x=true
 rch:∀ i,i<g.nodes.length->Rch g.nodes 0 i
theorem GB {rt:Sc->Bool} {nb:ByteArray->Bool} {t:Tr} (h:(Al (BY rt nb) t).2=0):NO rt (Al (BY rt nb) t).1:=by
 unfold Al at h |-;split at h
 ·rename_i he;rw[if_pos he];obtain⟨⟨s',v,e⟩,hT⟩:∃ q,BO (BY rt nb) 1 t ⟨[],[]⟩=q:=⟨_,rfl⟩
  rw[hT] at he;dsimp only at he;subst he;have h1:=K6 t 1 ⟨[],[]⟩ s' v hT ⟨fun nm u hu=>(by cases hu),(by simp)⟩;rw[hT];have hv:v=0:=by
   cases t with
   | mk k nm x ks ts=>
    unfold BO at hT;split at hT
    ·rename_i hc;obtain⟨_,_,_,h3,_⟩:=K4 (show F7 (BD rt (nb nm) k nm x ks ts.length) (!decide ks.Nodup) k 1 (AT nm ([]:List (ByteArray×Int))).isSome 0=0 from hc);split at hT
     ·rename_i hk;have:=h3 hk;cases this
     ·dsimp only at hT;split at hT
      ·simp only[Prod.mk.injEq] at hT;exact hT.2.1.symm
      ·rename_i hr;simp only[Prod.mk.injEq] at hT;exact absurd hT.2.2 hr
    ·rename_i hc;simp only[Prod.mk.injEq] at hT;exact absurd hT.2.2 hc
  subst hv;have:=h1.rng;refine⟨rfl,by dsimp only;omega,h1.gd.len,fun x hx=>?_,fun i hi=>h1.rch i (Nat.zero_le _) hi⟩;obtain⟨i,hi,rfl⟩:=List.getElem_of_mem hx;exact h1.new i _ (Nat.zero_le _) (List.getElem?_eq_getElem hi)
 ·rename_i he;exact absurd h he
theorem Ed {chk:Tr->Int->St->Int} {t:Tr} (h:(Al chk t).2≠0):(Al chk t).1=G8:=by
 unfold Al at h |-;split at h
 ·exact absurd rfl h
 ·rename_i he;rw[if_neg he]
end
section
section
variable (ρ:Int->Int)
end
theorem Lh {chk:Tr->Int->St->Int} {Fz:Nat} {s t:List UInt8} (h1:(A3 Fz t).1=(A3 Fz s).1) (h2:(A3 Fz t).2.2=(A3 Fz s).2.2):(Aq chk Fz t).1=(Aq chk Fz s).1/\(Aq chk Fz t).2.2=(Aq chk Fz s).2.2:=by
 unfold Aq;rw[h1,h2];split<;>exact⟨rfl,rfl⟩
theorem NJ {chk:Tr->Int->St->Int} {Fz:Nat} {s:List UInt8} (h:(Aq chk Fz s).2.2≠0):(Aq chk Fz s).1=G8:=by
 unfold Aq at h |-;split
 ·rfl
 ·rename_i ht;rw[if_neg ht] at h;exact Ed h
theorem Iz:∀ s:List UInt8,10∉rowOf s
 | []=>fun h=>by cases h
 | b::l=>fun h=>by
  unfold rowOf at h;rw[List.takeWhile_cons] at h;split at h
  ·rename_i hb;rcases List.mem_cons.1 h with e | h
   ·rw[<- e] at hb;exact absurd hb (by decide)
   ·exact Iz l h
  ·cases h
def AA (n:Nat):List UInt8:=List.replicate n 32
def Cw (n:Nat):List UInt8->List UInt8
 | []=>[]
 | c::r=>c::((if c=10 then AA n else [])++Cw n r)
theorem Mv (n:Nat):∀ (a r:List UInt8),Cw n (a++r)=Cw n a++Cw n r
 | [],r=>rfl
 | c::a,r=>by rw[List.cons_append,Cw,Cw,Mv n a r];simp
theorem M3 {n:Nat}:∀ {a:List UInt8},10∉a->Cw n a=a
 | [],_=>rfl
 | c::a,h=>by
  rw[Cw,if_neg (fun e=>h (by rw[e];exact List.mem_cons_self ..)),M3 (fun e=>h (List.mem_cons_of_mem _ e))];rfl
theorem Qt (n:Nat):∀ s:List UInt8,(Cw n s).length<=(n+1)*s.length
 | []=>Nat.le_refl _
 | c::r=>by
  have:=Qt n r;rw[Cw,List.length_cons,List.length_append,List.length_cons];have h:(if c=10 then AA n else ([]:List UInt8)).length<=n:=by split<;>simp[AA]
  rw[Nat.mul_add];omega
def JK (n:Nat) (x:Sc):Sc:=⟨x.kind,x.num+n,x.str⟩
theorem FL (n:Nat) (r:List UInt8):AK (AA n++r)=AK r:=by
 unfold AK Lib.trimLeftB AA;induction n with
 | zero=>rfl
 | succ n ih=>rw[List.replicate_succ,List.cons_append,List.dropWhile_cons,if_pos (by decide)];exact ih
theorem Iw (n:Nat) (r:List UInt8):AO (AA n++r)=AO r:=by unfold AO;rw[FL]
theorem IR (n k:Nat) (r:List UInt8):AN k (AA n++r)=JK n (AN k r):=by
 unfold AN JK;rw[FL];dsimp only
 congr 1;rw[List.length_append];simp[AA];omega
theorem LD {n:Nat} (hn:0<n) (r:List UInt8):Ax (AA n++r)=if Bd r then 0 else 80:=by
 have h1:Bd (AA n++r)=Bd r:=PQ n r;have h2:B7 (AA n++r)=false:=by
  obtain⟨m,rfl⟩:∃ m,n=m+1:=⟨n - 1,by omega⟩
  simp[B7,BZ,AA,List.replicate_succ,Lib.hasPrefix,List.isPrefixOf]
 unfold Ax;rw[h1,h2];rfl
theorem O9 {r:List UInt8} (h:Ax r≠81):(if Bd r then (0:Int) else 80)=Ax r:=by
 unfold Ax at h |-;split
 ·rename_i hp;rw[if_pos hp] at h;split
  ·rename_i hm;rw[if_pos hm] at h;exact absurd rfl h
  ·rfl
 ·rfl
theorem R9 {n:Nat} (hn:0<n):∀ (m:Nat) (s:List UInt8) (k:Nat) (acc:List Sc),s.length<=m->(BB (BG k (Be s)) acc).2.2≠81→
  BB (BG k (Be (AA n++Cw n s))) (acc.map (JK n))=((BB (BG k (Be s)) acc).1.map (JK n),(BB (BG k (Be s)) acc).2.1,(BB (BG k (Be s)) acc).2.2)
 | m,[],k,acc,_,_=>by
  have hno:10∉AA n:=by unfold AA;simp
  have hne:AA n≠[]:=by unfold AA;simp;omega
  have:AA n++Cw n []=AA n:=List.append_nil _;rw[this,FW hno hne,Ba,Bc];have ht:=LD hn [];have hs:=Iw n [];rw[List.append_nil] at ht hs;rw[ht,hs];rfl
 | 0,c::s,k,acc,h,_=>by simp at h
 | m+1,c::s,k,acc,h,he=>by
  obtain⟨u,hu⟩:∃ u,c::s=u:=⟨_,rfl⟩
  have hune:u≠[]:=by rw[<- hu];simp
  rw[hu] at h he |-;obtain⟨h1,h2⟩:=CE u;have hno:10∉AA n++rowOf u:=by
   have:=Iz u;unfold AA;simp[this]
  rw[DU hune,Ba,Bc] at he;have hrs:Be u=rowOf u::Be (AS u):=DU hune;have ht81:Ax (rowOf u)≠81:=fun e=>by rw[if_pos (by rw[e];decide),e] at he;exact he rfl
  have htr:=(LD hn (rowOf u)).trans (O9 ht81);by_cases h10:10∈u
  ·have hs:=h1 h10;have hlt:=D9 hune;have ht:AA n++Cw n u=(AA n++rowOf u)++10::(AA n++Cw n (AS u)):=by
    conv=>lhs;rw[hs]
    rw[Mv,M3 (Iz u),Cw,if_pos rfl];simp
   rw[ht,DM hno,Ba,Bc,htr,hrs,Ba,Bc];by_cases hb:Ax (rowOf u)≠0
   ·rw[if_pos hb,if_pos hb];rfl
   ·rw[if_neg hb] at he;rw[if_neg hb,if_neg hb,Iw,IR];have hacc:(if AO (rowOf u)=true then acc.map (JK n)++[JK n (AN k (rowOf u))] else acc.map (JK n))=(if AO (rowOf u)=true then acc++[AN k (rowOf u)] else acc).map (JK n):=by
     split
     ·rw[List.map_append,List.map_singleton]
     ·rfl
    rw[hacc];exact R9 hn m (AS u) (k+1) _ (by omega) he
  ·obtain⟨h3,h4⟩:=h2 h10;have ht:AA n++Cw n u=AA n++rowOf u:=by rw[M3 h10,h3]
   have hne:AA n++rowOf u≠[]:=by rw[h3];simp[hune]
   rw[ht,FW hno hne,Ba,Bc,htr,hrs,h4,CO,Ba,Bc,Iw,IR];split
   ·rfl
   ·show(if AO (rowOf u)=true then _ else _,(0:Int),(0:Int))=_;refine Prod.ext ?_ rfl;show(if AO (rowOf u)=true then _ else _)=(if AO (rowOf u)=true then _ else _:List Sc).map (JK n);split
    ·rw[List.map_append,List.map_singleton]
    ·rfl
theorem Py (k:Nat):∀ (n:Nat) (s:List UInt8),s.length<=n->validD (Cw k s)=validD s
 | n,[],_=>rfl
 | 0,c::s,h=>by simp at h
 | n+1,c::s,h=>by
  obtain⟨u,hu⟩:∃ u,c::s=u:=⟨_,rfl⟩
  have hune:u≠[]:=by rw[<- hu];simp
  rw[hu] at h |-;obtain⟨h1,h2⟩:=CE u;by_cases h10:10∈u
  ·have hs:=h1 h10;have hlt:=D9 hune;have ih:=Py k n (AS u) (by omega);have ht:Cw k u=rowOf u++10::(AA k++Cw k (AS u)):=by
    conv=>lhs;rw[hs]
    rw[Mv,M3 (Iz u),Cw,if_pos rfl]
   by_cases ha:validD (rowOf u)=true
   ·rw[ht,Bj _ _ _ Nr ha,validD_cons _ _ (by decide)];unfold AA;rw[LS,ih]
    conv=>rhs;rw[hs]
    rw[Bj _ _ _ Nr ha,validD_cons _ _ (by decide)]
   ·have f1:validD (Cw k u)=false:=by
     cases hc:validD (Cw k u) with
     | false=>rfl
     | true=>rw[ht] at hc;exact absurd (B0 10 (by decide) _ _ _ Nr hc) ha
    have f2:validD u=false:=by
     cases hc:validD u with
     | false=>rfl
     | true=>rw[hs] at hc;exact absurd (B0 10 (by decide) _ _ _ Nr hc) ha
    rw[f1,f2]
  ·rw[M3 h10]
theorem Zq {n:Nat} (hn:0<n) (h9:n<=9) {s:List UInt8} (h:s.length<=600) (he:(Ao s).2.2≠81):Ao (AA n++Cw n s)=((Ao s).1.map (JK n),(Ao s).2.1,(Ao s).2.2):=by
 have hl:=Qt n s;have hl2:(n+1)*s.length<=10*600:=Nat.mul_le_mul (by omega) h;have hlen:(AA n++Cw n s).length=n+(Cw n s).length:=by rw[List.length_append];simp[AA]
 have hv:validD (AA n++Cw n s)=validD s:=by unfold AA;rw[LS];exact Py n _ s Nr
 unfold Ao at he |-;rw[if_neg (show ¬8000<s.length by omega)] at he;rw[if_neg (show ¬8000<(AA n++Cw n s).length by omega),if_neg (show ¬8000<s.length by omega),hv];split
 ·rename_i hvs;rw[if_pos hvs] at he;exact R9 hn _ s 1 [] Nr he
 ·rfl
theorem ZH (n:Nat) (l:List Sc):(l.map (JK n)).map BM=(l.map BM).map (shL n 0):=by
 rw[List.map_map,List.map_map];refine List.map_congr_left fun x _=>?_;show IM.mk _ _ _=IM.mk _ _ _;rw[Int.add_zero];rfl
theorem Ow (chk:Tr->Int->St->Int) {n:Nat} (hn:0<n) (h9:n<=9) {s:List UInt8} (h:s.length<=600) (he:(Aq chk 100000 s).2.2≠81):
  (Aq chk 100000 (AA n++Cw n s)).1=(Aq chk 100000 s).1/\(Aq chk 100000 (AA n++Cw n s)).2.2=(Aq chk 100000 s).2.2:=by
 have h81:(Ao s).2.2≠81:=fun e=>he (by
  have ht:(A3 100000 s).2.2=81:=by unfold A3;rw[if_pos (by rw[e];decide)];exact e
  unfold Aq;rw[if_pos (by rw[ht];decide)];exact ht)
 have key:(A3 100000 (AA n++Cw n s)).1=(A3 100000 s).1/\(A3 100000 (AA n++Cw n s)).2.2=(A3 100000 s).2.2:=by
  unfold A3;rw[Zq hn h9 h h81];dsimp only
  split
  ·exact⟨rfl,rfl⟩
  ·rw[ZH];rcases Aag (Fz:=100000) (l:=(Ao s).1.map BM) (n:Int) 0 (by omega) (fun x hx=>by
    obtain⟨y,hy,rfl⟩:=List.mem_map.1 hx;have:=(Kt s).2 y hy;show 0<=y.num/\y.num+_<=8000;omega) FX with ⟨_,h2,_⟩ | ⟨h2,h3⟩
   ·rw[h2];exact⟨rfl,rfl⟩
   ·rw[h2];refine⟨?_,rfl⟩;exact(MX h3).symm
 exact Lh key.1 key.2
end
section
section
variable {P:Program} {n:Nat} {ds:List Deferred} {d:Bool} {ops:Array Oper} {K:Act->Y->Prop} {i:Nat} {pl pend:List Nat} {S:Y->Prop} {l:Env}
 {t:Nat} {ty:TypeId} {ps:String} {af:Array Edge} {gd:Option (Nat×Bool)}
theorem R.byte {x y:Operand} {tt:TypeId} {s:ByteArray} (k:Nat) (c:UInt8) (hc:s.data.toList[k]? =F c) (h:Rj P n ds d ops K pl pend S ((t,.int .u8 c.toNat)::l)) (ho:AQ ops.toList i=F ⟨F t,.index tt x y,ty,ps,af,gd⟩:=by rfl) (hx:ev l x=F (Q s):=by rfl) (hy:ev l y=F (I J (k:Int)):=by rfl) (hu:P.underlying tt=F .string:=by kernel_rfl) (hg:D0 ops.toList l gd=F true:=by rfl):Rj P n ds d ops K (i::pl) pend S l:=
 R.takeP ho hg rfl (by
  rw[if_pos rfl];intro a w ha;have h1:=ha.ev hx;have h2:=ha.ev hy;have hlt:k<s.size:=by have:=(List.getElem?_eq_some_iff.1 hc).1;rw[Lib.size_eq];exact this
  have hb:s.data[k]? =F c:=by rw[<- Array.getElem?_toList];exact hc
  have hr:=run_index_string (P:=P) w tt s .i64 (k:Int) hu;generalize a.eval=ρ at h1 h2 |-;simp[go_sem,h1,h2,hr,hlt];exact congrArg (fun c:UInt8=>(c.toNat:Int)) (show s[k]=c from(Array.getElem?_eq_some_iff.1 hb).2)) h
theorem R.piece {x y z:Operand} {tt:TypeId} {s:ByteArray} (k m:Nat) (hk:k<=m) (hm:m<=s.size) {i2:Int} (h2:i2=(m:Int)) (h:Rj P n ds d ops K pl pend S ((t,Q (s.extract k m))::l)) (ho:AQ ops.toList i=F ⟨F t,.slice tt x (F y) (F z) O,ty,ps,af,gd⟩:=by rfl) (hx:ev l x=F (Q s):=by rfl) (hy:ev l y=F (I J (k:Int)):=by rfl) (hz:ev l z=F (I J i2):=by rfl) (hu:P.underlying tt=F .string:=by kernel_rfl) (hg:D0 ops.toList l gd=F true:=by rfl):Rj P n ds d ops K (i::pl) pend S l:=
 R.takeP ho hg rfl (by
  rw[if_pos rfl];intro a w ha;subst h2;have h1:=ha.ev hx;have h2:=ha.ev hy;have h3:=ha.ev hz;have hr:=run_slice_string (P:=P) w tt s .i64 .i64 (k:Int) (m:Int) hu;generalize a.eval=ρ at h1 h2 h3 |-;simp[go_sem,h1,h2,h3,hr,hk,hm,run_sliceAt_string w tt _ _ _ _ hu]) h
end
end
section
theorem H3 (s:ByteArray) (w:Y):Calls Tryz.prog 12 #[Q s] w fun e w'=>e=.returned (Q (s.extract 0 (min s.size 600)))/\Below w.heap.size w w':=by
 refine V.enter _ Tryz.func12 (Mem.start (C:=A5) w) ?_
 repeat refine W ?_
 have hk:min s.size 600<=s.size:=Nat.min_le_left ..;first | refine R.re 6 (v:=I J (if 600<(s.size:Int) then 600 else (s.size:Int))) (v':=I J ((min s.size 600:Nat):Int)) (by congr 1;split<;>omega) ?_ | refine R.re 6 (v:=I J (min (s.size:Int) 600)) (v':=I J ((min s.size 600:Nat):Int)) (by congr 1;omega) ?_
 generalize min s.size 600=k at hk |-;refine W ?_ (by
  refine R.p (v:=Q (s.extract 0 k)) (hv:=?_);intro ρ w h;simp only[Op.operands,GD,List.map_cons,List.map_nil,Array.toList_append,List.toList_toArray,List.nil_append,List.cons_append] at h;have h6:ρ (.tmp 6)=I J k:=h.2.1;have h3:=h.1;have:=run_slice_string_to_if (P:=Tryz.prog) w 9 s .i64 (k:Int) Tryz.underlying9;simp[go_sem,h3,h6,this,hk])
 repeat refine W ?_
 refine V.end fun w' h'=>?_;exact⟨rfl,h'.1.below⟩
end
section
structure T9 (M M2:Nat) (x:Nd):Prop where
 keys:x.keys.length<=M
 kids:x.kids.length<=M
 str:x.x.str.size<=M2/\∀ y∈x.keys,y.str.size<=M2
theorem Qj {M M2:Nat} {s:St} {a:Nat} {v:Int} (h:∀ x∈s.nodes,T9 M M2 x) (ha:∀ x,s.nodes[a]? =F x->x.kids.length+1<=M):∀ x∈(s.kid a v).nodes,T9 M M2 x:=by
 intro x hx;obtain⟨i,hi⟩:=List.mem_iff_getElem?.1 hx;rw[CW] at hi;split at hi
 ·rename_i e;subst e;cases hs:s.nodes[i]? with
  | none=>rw[hs] at hi;cases hi
  | some y=>
   rw[hs] at hi;cases hi
   have hy:=h y (List.mem_of_getElem? hs);exact⟨hy.keys,by have:=ha y hs;rw[List.length_append];exact this,hy.str⟩
 ·exact h x (List.mem_of_getElem? hi)
mutual
theorem Nc (chk:Tr->Int->St->Int) {M M2:Nat}:∀ (t:Tr) (deep:Int) (s:St),Sm M t->Fo M2 t->(∀ x∈s.nodes,T9 M M2 x)->∀ x∈(BO chk deep t s).1.nodes,T9 M M2 x
 | .mk k nm x ks ts,deep,s,h1,h2,h=>by
  unfold Sm at h1;unfold Fo at h2;unfold BO;split
  ·split
   ·exact h
   ·have hn:∀ y∈(s.node k nm x ks).nodes,T9 M M2 y:=fun y hy=>by
     rcases List.mem_append.1 (show y∈s.nodes++[⟨k,x,ks,[]⟩] from hy) with hy | hy
     ·exact h y hy
     ·rw[List.mem_singleton.1 hy];exact⟨h1.1,Nat.zero_le _,h2.2.1,h2.2.2.1⟩
    have hg:(s.node k nm x ks).nodes[s.nodes.length]? =F ⟨k,x,ks,[]⟩:=by show(s.nodes++[_])[_]? =_;rw[List.getElem?_append_right Nr,Nat.sub_self];rfl
    have:=ND chk ts deep s.nodes.length (s.node k nm x ks) h1.2.2 h2.2.2.2 hn (fun y hy=>by rw[hg] at hy;cases hy;simpa using h1.2.1) (by show _<(s.nodes++[_]).length;simp);dsimp only
    split<;>exact this
  ·exact h
theorem ND (chk:Tr->Int->St->Int) {M M2:Nat}:∀ (ts:List Tr) (deep:Int) (a:Nat) (s:St),Sm.SmTs M ts->Fo.SzTs M2 ts->(∀ x∈s.nodes,T9 M M2 x)->(∀ x,s.nodes[a]? =F x->x.kids.length+ts.length<=M)->a<s.nodes.length->∀ x∈(D3 chk deep a ts s).1.nodes,T9 M M2 x
 | [],deep,a,s,_,_,h,_,_=>by unfold D3;exact h
 | t::r,deep,a,s,h1,h2,h,ha,hlt=>by
  unfold Sm.SmTs at h1;unfold Fo.SzTs at h2;have hq:=Nc chk t (deep+1) s h1.1 h2.1 h;obtain⟨k1,k2⟩:=FH chk t (deep+1) s;have ha2:∀ x,(BO chk (deep+1) t s).1.nodes[a]? =F x->x.kids.length+1<=M:=fun x hx=>by
   rw[k2 a hlt] at hx;have:=ha x hx;rw[List.length_cons] at this;omega
  have hk:=fun v=>Qj (v:=v) hq ha2;unfold D3;dsimp only
  split
  ·refine ND chk r deep a _ h1.2 h2.2 (hk _) (fun x hx=>?_) (by rw[BS];omega);rw[CW,if_pos rfl,k2 a hlt] at hx;cases hs:s.nodes[a]? with
   | none=>rw[hs] at hx;cases hx
   | some y=>
    rw[hs] at hx;cases hx
    have:=ha y hs;simp only[List.length_cons] at this;rw[List.length_append,List.length_singleton];omega
  ·exact hk _
end
theorem M6 (s:List UInt8):∀ x∈(Aq AD 100000 s).1.nodes,T9 25000 40000 x:=by
 unfold Aq;split
 ·exact fun x hx=>by cases hx
 ·show ∀ x∈(Al AD (A3 100000 s).1).1.nodes,_;unfold Al;split
  ·have hs:Sm 25000 (A3 100000 s).1/\Fo 40000 (A3 100000 s).1:=by
    unfold A3;split
    ·exact⟨G4 _,G7 _⟩
    ·exact⟨Q8 fun es he=>by have:=FX es he;omega,Qu 100000 s⟩
   exact Nc AD _ 1 ⟨[],[]⟩ hs.1 hs.2 (fun x hx=>by cases hx)
  ·exact fun x hx=>by cases hx
end
section
theorem baL (l:List UInt8):(⟨l.toArray⟩:ByteArray).size=l.length:=by rw[Lib.size_eq]
theorem baC (l m:List UInt8):(⟨l.toArray⟩:ByteArray)++⟨m.toArray⟩=⟨(l++m).toArray⟩:=by
 apply ByteArray.ext;rw[ByteArray.data_append];simp
theorem baE (s:ByteArray) (k:Nat) (c:UInt8) (h:s.data.toList[k]? =F c):s.extract k (k+1)=⟨[c].toArray⟩:=by
 have hlt:=(List.getElem?_eq_some_iff.1 h).1;apply ByteArray.ext;apply Array.ext';rw[ByteArray.data_extract,Array.toList_extract];simp only[List.extract_eq_take_drop]
 rw[List.drop_eq_getElem_cons hlt];rw[List.getElem?_eq_getElem hlt] at h;cases h
 simp
theorem Rm (s:List UInt8):(Aq AD 100000 s).1=G8\/NO A4 (Aq AD 100000 s).1:=by
 unfold Aq;split
 ·exact .inl rfl
 ·by_cases h:(Al AD (A3 100000 s).1).2=0
  ·exact .inr (GB h)
  ·exact .inl (Ed h)
theorem Qs (s:List UInt8):SmN (Aq AD 100000 s).1.nodes:=by
 refine⟨?_,fun x hx=>?_⟩
 ·rcases Rm s with h | h
  ·rw[h];exact Nat.zero_le _
  ·have:=h.len;omega
 ·have:=M6 s x hx;have:=this.keys;have:=(M6 s x hx).kids;omega
theorem Aju {c d:UInt8} (h:c≠d):((c.toNat:Int)==(d.toNat:Int))=false:=by
 have:c.toNat≠d.toNat:=fun e=>h (UInt8.toNat_inj.1 e);simp;omega
end
section
theorem Ah6 (n:Nat) (l:List UInt8) (k:Nat) (c:UInt8) (h:l[k]? =F c):Cw n (l.take (k+1))=Cw n (l.take k)++(c::(if c=10 then AA n else [])):=by
 rw[List.take_add_one,h,Mv];show _++(c::((if c=10 then AA n else [])++[]))=_;rw[List.append_nil]
theorem Ad1 (s:ByteArray) (m:Int) (w:Y) (hW:FP w):Calls Tryz.prog 4 #[Q s,I J m] w fun e w'=>e=.returned (.bool true)/\Below w.heap.size w w':=by
 obtain⟨S,hS⟩:∃ S,s.extract 0 (min s.size 600)=S:=⟨_,rfl⟩
 have hSs:S.size<=600:=by rw[<- hS,ByteArray.size_extract];omega
 obtain⟨l,hl⟩:∃ l,S.data.toList=l:=⟨_,rfl⟩
 have hll:l.length<=600:=by rw[<- hl,<- Lib.size_eq];exact hSs
 have hSl:S.size=l.length:=by rw[<- hl,Lib.size_eq]
 obtain⟨n,hn⟩:∃ n:Nat,min (max m 1) 9=(n:Int):=⟨(min (max m 1) 9).toNat,by omega⟩
 have hn0:0<n:=by omega
 have hn9:n<=9:=by omega
 have hbl9:(⟨#[32,32,32,32,32,32,32,32,32]⟩:ByteArray).extract 0 n=⟨(AA n).toArray⟩:=by
  clear hn;rcases(by omega:n=1\/n=2\/n=3\/n=4\/n=5\/n=6\/n=7\/n=8\/n=9) with rfl | rfl | rfl | rfl | rfl | rfl | rfl | rfl | rfl<;>kernel_rfl
 have hlaw:=fun h=>Ow AD hn0 hn9 hll h;have hbad:=NJ (chk:=AD) (Fz:=100000) (s:=l);have hq:=Qs l;have hL1:=fun w' (h:FP w')=>C2 S w' h;have hL2:=fun w' (h:FP w')=>C2 ⟨(AA n++Cw n l).toArray⟩ w' h;rw[hl] at hL1;rw[show(⟨(AA n++Cw n l).toArray⟩:ByteArray).data.toList=AA n++Cw n l from rfl] at hL2;obtain⟨⟨g,n1,e1⟩,h1⟩:∃ x,Aq AD 100000 l=x:=⟨_,rfl⟩
 obtain⟨⟨g2,n2,e2⟩,h2⟩:∃ x,Aq AD 100000 (AA n++Cw n l)=x:=⟨_,rfl⟩
 rw[h1,h2] at hlaw;rw[h1] at hq hL1 hbad;rw[h2] at hL2;clear h1 h2;dsimp only at hlaw hbad hq;refine V.enter _ Tryz.func4 (Mem.start (C:=A5) w) ?_
 repeat refine W ?_
 refine R.c (fun w' h'=>DY w' (hW.to h'.1.below)) ?_
 repeat refine W ?_
 refine R.c (fun w' h'=>H3 s w') ?_;rw[hS]
 repeat refine W ?_
 refine R.cut (s:=⟨#[32,32,32,32,32,32,32,32,32]⟩) n (m:=min (max m 1) 9) (by show n<=9;omega) hn ?_;rw[hbl9];clear hbl9;have hbn:(⟨(AA n).toArray⟩:ByteArray).size=n:=by rw[baL];simp[AA]
 have hmul:∀ k,k<=600->(n+1)*k<=6000:=fun k hk=>by have:=Nat.mul_le_mul (show n+1<=10 by omega) hk;omega
 repeat refine W ?_
 refine V.loop (ι:=Nat) (fun k=>k<=l.length) (fun _=>Mem A5 w []) (fun k=>[(7,Q ⟨(AA n++Cw n (l.take k)).toArray⟩),(8,I J k),(6,Q ⟨(AA n).toArray⟩),(0,Q S),(5,.bool true)]) (fun k=>l.length - k) 0 (Nat.zero_le _) (fun w h=>h) ⟨(by simp[Cw];rfl),rfl,rfl,rfl,rfl,trivial⟩ ?_;intro k hk;have hdl:=Qt n (l.take k);have hdt:(l.take k).length<=600:=by rw[List.length_take];omega
 have hdm:=hmul _ hdt;have hbl:=baL (AA n++Cw n (l.take k));rw[List.length_append,show(AA n).length=n by simp[AA]] at hbl
 repeat refine W ?_
 rw[hSl];refine V.ifp (fun hlt=>?_) (fun hge=>?_)
 ·have hlt2:k<l.length:=by omega
  obtain⟨c,hc⟩:∃ c,l[k]? =F c:=⟨_,List.getElem?_eq_getElem hlt2⟩
  have hcS:S.data.toList[k]? =F c:=by rw[hl];exact hc
  have hda:=Ah6 n l k c hc;have hpc:=baE S k c hcS
  repeat refine W ?_
  refine R.piece (s:=S) k (k+1) (by omega) (by omega) (i2:=(k:Int)+1) (by omega) ?_;rw[hpc];refine R.cat ⟨(AA n++Cw n (l.take k)).toArray⟩ ⟨[c].toArray⟩ (by show _+1<=_;omega) ?_
  repeat refine W ?_
  refine R.byte k c hcS ?_;by_cases h10:c=10
  ·subst h10;rw[if_pos rfl] at hda
   repeat refine W ?_
   refine R.cat (⟨(AA n++Cw n (l.take k)).toArray⟩++⟨[10].toArray⟩) ⟨(AA n).toArray⟩ (by rw[ByteArray.size_append,hbn];show _+1+_<=_;omega) ?_
   repeat refine W ?_
   refine V.re 7 (v:=Q (⟨(AA n++Cw n (l.take k)).toArray⟩++⟨[10].toArray⟩++⟨(AA n).toArray⟩)) (v':=Q ⟨(AA n++Cw n (l.take (k+1))).toArray⟩) (by rw[hda,baC,baC,List.append_assoc,List.append_assoc];rfl) ?_;refine V.again (k+1)
  ·rw[if_neg h10] at hda
   repeat refine W ?_
   refine V.re 40 (v:=.bool ((c.toNat:Int)==10)) (v':=.bool false) (congrArg Value.bool (Aju h10)) ?_
   repeat refine W ?_
   refine V.re 7 (v:=Q (⟨(AA n++Cw n (l.take k)).toArray⟩++⟨[c].toArray⟩)) (v':=Q ⟨(AA n++Cw n (l.take (k+1))).toArray⟩) (by rw[hda,baC,List.append_assoc]) ?_;refine V.again (k+1)
 ·have hkl:k=l.length:=by omega
  subst hkl;rw[List.take_length]
  repeat refine W ?_
  refine R.cf (fun w' h'=>hL1 w' (hW.to h'.1.below)) (fun q=>?_)
  repeat (first | refine W ?_ | refine R.new fun _ _=>?_)
  refine R.cf (fun w' h'=>hL2 w' (hW.to h'.1.below)) (fun q2=>?_)
  repeat (first | refine W ?_ | refine R.new fun _ _=>?_)
  by_cases h81:e1=81
  ·subst h81;have:=hbad (by decide);subst this
   repeat refine W ?_
   refine V.end fun w' h'=>?_;exact⟨rfl,h'.1.below⟩
  ·obtain⟨rfl,rfl⟩:g2=g/\e2=e1:=hlaw h81;refine V.re 57 (v:=.bool (e2==81)) (v':=.bool false) (by simp[h81]) ?_
   repeat refine W ?_
   refine R.c (v:=.bool true) (fun w' h'=>?_) ?_
   ·obtain⟨Fz,⟨A,c,ea,hn⟩,_⟩:=h'.has (X:=KZ (Fx q.1 q.2 g2) g2) (by simp);obtain⟨F2,⟨A2,c2,ea2,hn2⟩,_⟩:=h'.has (X:=KZ (Fx q2.1 q2.2 g2) g2) (by simp);obtain⟨rfl,rfl⟩:=DP ea;obtain⟨rfl,rfl⟩:=DP ea2;exact(DQ Fz F2 q.1 q2.1 q.2 q2.2 _ _ w' hn hn2 hq).mono fun e w2 ⟨he,hb⟩=>⟨by rw[he,decide_eq_true rfl],hb⟩
   repeat refine W ?_
   refine V.end fun w' h'=>?_;exact⟨rfl,h'.1.below⟩
end
end Go.Proofs.YtdpppepmkeinaaaGreatDoor
