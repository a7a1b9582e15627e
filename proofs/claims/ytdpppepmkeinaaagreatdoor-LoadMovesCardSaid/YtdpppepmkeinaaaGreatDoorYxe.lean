/- What is proved: a part of the walk of the program and of its plain laws; no condition beside those that each theorem names. -/
import Derived.Test.YtdpppepmkeinaaaGreatDoorYz
import Derived.Test.YtdpppepmkeinaaaGreatDoorYy
import Derived.Test.YtdpppepmkeinaaaGreatDoorYxd
import Derived.Test.YtdpppepmkeinaaaGreatDoorYa
namespace Go.Proofs.YtdpppepmkeinaaaGreatDoor
open Go Go.RowKit Go.Lib
open Go.Value renaming int->I,string->Q,slice->Z
open Go.IntKind renaming i64->J
open Option renaming none->O,some->F
open _root_.Go renaming World->Y
set_option linter.unusedSimpArgs false
set_option linter.unusedVariables false
set_option linter.unusedSectionVars false
section
def Tr.nm:Tr->ByteArray
 | .mk _ n _ _ _=>n
def IT (ts:List C8):List Pc:=ts.map fun t=>⟨t.kind,t.str⟩
theorem VQ (ts:List C8):(IT ts).length=ts.length:=by unfold IT;simp
def Sm (M:Nat):Tr->Prop
 | .mk _ _ _ ks ts=>ks.length<=M/\ts.length<=M/\SmTs ts
where SmTs:List Tr->Prop
 | []=>True
 | t::r=>Sm M t/\SmTs r
theorem Aa9 {M:Nat}:∀ (ts:List Tr) (k:Nat),k<ts.length->Sm.SmTs M ts->Sm M (ts.getD k Ei)
 | [],k,h,_=>by simp at h
 | t::r,0,_,h=>by unfold Sm.SmTs at h;exact h.1
 | t::r,k+1,h,hs=>by unfold Sm.SmTs at hs;exact Aa9 r k (by simpa using h) hs.2
theorem G4 (M:Nat):Sm M Ei:=by unfold Ei Sm Sm.SmTs;exact⟨Nat.zero_le _,Nat.zero_le _,trivial⟩
theorem Nl {M:Nat} {t:Tr} (h:Sm M t) (s:List UInt8):Sm M (t.named s):=by
 cases t
 unfold Tr.named;unfold Sm at h |-;exact h
theorem small (M:Nat):∀ N,N<=M->(∀ p v,p.length<=N->PV p v->Sm M v)/\(∀ p ts,p.length<=N->PI p ts->ts.length<=p.length/\Sm.SmTs M ts)∧
  (∀ p ks ts,p.length<=N->PD p ks ts->ks.length<=p.length/\ts.length<=p.length/\Sm.SmTs M ts)/\(∀ p x v,p.length<=N->PP p x v->Sm M v)
 | 0,_=>⟨fun p v hp h=>by
   have h1:=(Bm h).1;have:p=[]:=List.eq_nil_of_length_eq_zero (by omega);exact absurd this h1,fun p ts hp h=>by
   have h1:=N1 h;have:p=[]:=List.eq_nil_of_length_eq_zero (by omega);exact absurd this h1,fun p ks ts hp h=>by
   have h1:=NY h;have:p=[]:=List.eq_nil_of_length_eq_zero (by omega);exact absurd this h1,fun p x v hp h=>by
   have h1:=Abd h;have:p=[]:=List.eq_nil_of_length_eq_zero (by omega);exact absurd this h1⟩
 | N+1,hN=>by
  obtain⟨hV,hI,hD,hP⟩:=small M N (by omega);have V:∀ p v,p.length<=N+1->PV p v->Sm M v:=fun p v hp h=>by
   cases h with
   | key t h=>unfold BX Sm Sm.SmTs;exact⟨Nat.zero_le _,Nat.zero_le _,trivial⟩
   | ali t h=>unfold Fd Sm Sm.SmTs;exact⟨Nat.zero_le _,Nat.zero_le _,trivial⟩
   | nam t p v h _ _ hp'=>exact Nl (hV p v (by simp at hp;omega) hp') _
   | lst t p ts h hp'=>
    obtain⟨h1,h2⟩:=hI p ts (by simp at hp;omega) hp';unfold Bt Sm;exact⟨Nat.zero_le _,by simp at hp;omega,h2⟩
   | dic t p ks ts h hp'=>
    obtain⟨h1,h2,h3⟩:=hD p ks ts (by simp at hp;omega) hp';unfold BT Sm;exact⟨by simp at hp;omega,by simp at hp;omega,h3⟩
  have P:∀ p x v,p.length<=N+1->PP p x v->Sm M v:=fun p x v hp h=>by
   cases h with
   | none k c h hc=>exact G4 M
   | some k c p v h hc hp'=>exact hV p v (by simp at hp;omega) hp'
  refine⟨V,fun p ts hp h=>?_,fun p ks ts hp h=>?_,P⟩
  ·cases h with
   | nil c h=>unfold Sm.SmTs;exact⟨by simp,trivial⟩
   | last p v c hp' h=>
    have:=V p v (by simp at hp;omega) hp';unfold Sm.SmTs Sm.SmTs;exact⟨by simp,this,trivial⟩
   | cons p v m q ts hp' h hq=>
    have h0:=V p v (by simp at hp;omega) hp';obtain⟨h1,h2⟩:=hI q ts (by have:=List.length_pos_iff.2 (Bm hp').1;simp at hp;omega) hq;rw[Sm.SmTs];exact⟨by simp;omega,h0,h2⟩
  ·cases h with
   | nil c h=>unfold Sm.SmTs;exact⟨by simp,by simp,trivial⟩
   | last p x v c hp' h=>
    have:=P p x v (by simp at hp;omega) hp';unfold Sm.SmTs Sm.SmTs;exact⟨by simp,by simp,this,trivial⟩
   | cons p x v m q ks ts hp' h hq=>
    have h0:=P p x v (by simp at hp;omega) hp';obtain⟨h1,h2,h3⟩:=hD q ks ts (by have:=List.length_pos_iff.2 (Abd hp');simp at hp;omega) hq;rw[Sm.SmTs];exact⟨by simp;omega,by simp;omega,h0,h3⟩
theorem Ahb {M:Nat} {p:List Pc} {v:Tr} (h:PV p v) (hp:p.length<=M):Sm M v:=(small M p.length hp).1 p v Nr h
end
section
structure En where
 no:Int
 col:Int
 l:List C8
def WK:C8:=⟨0,[],0⟩
def Zt (l:List C8) (i:Nat):Int:=(l.getD i WK).kind
inductive Bg where
 | dash
 | key
 | name (s:List UInt8)
 | plain
deriving DecidableEq
def Ck (l:List C8):Bg:=
 if Zt l 0=5 then .dash else if (Zt l 0=1\/Zt l 0=2)/\Zt l 1=6 then .key else if Zt l 0=3/\l.length=1 then .name (l.getD 0 WK).str else .plain
inductive BR where
 | ok (t:Tr) (rest:List En)
 | bad (no e:Int)
 | out
def BR.bind:BR->(Tr->List En->BR)->BR
 | .ok t rest,f=>f t rest
 | .bad no e,_=>.bad no e
 | .out,_=>.out
def C9 (no:Int) (l:List C8) (d:Nat) (rest:List En):BR:=
 if 24<d then .bad no 73 else if (Bl (IT l)).2≠0 then .bad no (Bl (IT l)).2 else if 24<Ad (Bl (IT l)).1+d - 1 then .bad no 73 else .ok (Bl (IT l)).1 rest
def G9 (no:Int) (s:List UInt8):BR->BR
 | .ok t rest=>if t.kind=3\/t.nm≠⟨#[]⟩ then .bad no 93 else .ok (t.named s) rest
 | b=>b
def Dz (col:Int) (t:Tr) (x:En) (r:List En):BR:=
 if x.col<col then .ok t (x::r) else if col<x.col then .bad x.no 92 else .bad x.no 93
def EA (l:List C8):Sc×Int:=B3 ⟨(l.getD 0 WK).kind,(l.getD 0 WK).str⟩
def FO (x:En):En:=⟨x.no,x.col+(x.l.getD 1 WK).at_ - (x.l.getD 0 WK).at_,x.l.tail⟩
structure GdN (x:En):Prop where
 ne:x.l≠[]
 lo: -10000000<=x.col - (x.l.getD 0 WK).at_
 hi:x.col - (x.l.getD 0 WK).at_<=10000000
 pl:∀ t∈x.l,0<=t.at_/\t.at_<=10000000
mutual
def AF:Nat->Int->Nat->List En->BR
 | 0,_,_,_=>.out
 | n+1,m,d,l=>match l with
  | []=>.out
  | x::r=>if 24<d then .bad x.no 73 else match Ck x.l with
   | .dash=>BK n x.col d (x::r) []
   | .key=>AL n x.col d (x::r) [] []
   | .name s=>G9 x.no s (belowB n x.no m d r)
   | .plain=>C9 x.no x.l d r
def belowB:Nat->Int->Int->Nat->List En->BR
 | 0,_,_,_,_=>.out
 | n+1,no,m,d,l=>match l with
  | []=>if 24<d then .bad no 73 else .ok Ei []
  | x::r=>if m<x.col then AF n m d (x::r) else if 24<d then .bad no 73 else .ok Ei (x::r)
def B2:Nat->Nat->En->List En->BR
 | 0,_,_,_=>.out
 | n+1,d,x,r=>if x.l.length=1 then belowB n x.no x.col d r else AF n x.col d (FO x::r)
def BK:Nat->Int->Nat->List En->List Tr->BR
 | 0,_,_,_,_=>.out
 | n+1,col,d,l,acc=>match l with
  | []=>.ok (Bt acc) []
  | x::r=>if x.col=col/\Ck x.l=.dash then (B2 n (d+1) x r).bind (fun t rest=>BK n col d rest (acc++[t])) else Dz col (Bt acc) x r
def B8:Nat->Nat->En->List En->BR
 | 0,_,_,_=>.out
 | n+1,d,x,r=>match Ck (x.l.drop 2) with
  | .name s=>G9 x.no s (belowB n x.no x.col d r)
  | _=>if x.l.length=2 then belowB n x.no x.col d r else C9 x.no (x.l.drop 2) d r
def AL:Nat->Int->Nat->List En->List Sc->List Tr->BR
 | 0,_,_,_,_,_=>.out
 | n+1,col,d,l,ks,ts=>match l with
  | []=>.ok (BT ks ts) []
  | x::r=>if x.col=col/\Ck x.l=.key then (if (EA x.l).2≠0 then .bad x.no (EA x.l).2 else (B8 n (d+1) x r).bind (fun t rest=>AL n col d rest (ks++[(EA x.l).1]) (ts++[t]))) else Dz col (BT ks ts) x r
end
theorem IN {no:Int} {l:List C8} {d:Nat} {r rest:List En} {t:Tr} (h:C9 no l d r=.ok t rest):rest=r/\d+Ad t<=25/\t=(Bl (IT l)).1/\(Bl (IT l)).2=0:=by
 unfold C9 at h;split at h
 ·cases h
 ·split at h
  ·cases h
  ·split at h
   ·cases h
   ·injection h with h1 h2;subst h1 h2;have:=CL (Bl (IT l)).1;exact⟨rfl,by omega,rfl,Decidable.not_not.1 ‹_›⟩
theorem IQ {no:Int} {s:List UInt8} {b:BR} {t:Tr} {rest:List En} (h:G9 no s b=.ok t rest):∃ t',b=.ok t' rest/\t=t'.named s/\¬(t'.kind=3\/t'.nm≠⟨#[]⟩):=by
 cases b with
 | ok t' rest'=>
  unfold G9 at h;simp only at h;split at h
  ·cases h
  ·injection h with h1 h2;subst h1 h2;exact⟨t',rfl,rfl,‹_›⟩
 | bad n e=>cases h
 | out=>cases h
theorem GV {col:Int} {t u:Tr} {x:En} {r rest:List En} (h:Dz col t x r=.ok u rest):u=t/\rest=x::r/\x.col<col:=by
 unfold Dz at h;split at h
 ·injection h with h1 h2;exact⟨h1.symm,h2.symm,‹_›⟩
 ·split at h<;>cases h
end
section
set_option maxHeartbeats 8000000
set_option maxRecDepth 100000
def enC (no col:Int) (A:Option Addr) (n c:Nat):List Value:=[I J no,I J col,Z A n c]
def enV (no col:Int) (A:Option Addr) (n c:Nat):Value:=.agg (enC no col A n c).toArray
theorem Ml (S S2:Nat->Prop) (no col:Int) (A K:Option Addr) (c kc:Nat) (l:List C8) (p:Nat) (ks:List Int) (w:Y) (hl:Hu w S A l) (hk:Ja w S2 K ks) (hn:ks.length<=1000000):
  Calls Tryz.prog 193 #[enV no col A l.length c,I J p,Z K ks.length kc] w fun e w'=>e=.returned (.bool (Eg l p ks))/\Below w.heap.size w w':=by
 refine V.enter _ Tryz.func193 (Mem.start (C:=A5) w) ?_;refine W ?_;refine R.new fun b3 h3=>?_
 repeat refine W ?_
 refine V.loop (fun k=>k<=ks.length/\∀ (j:Nat) y,j<k->ks[j]? =F y->Eg l p [y]=false) (fun _=>Mem A5 w [blk b3 (enC no col A l.length c) 219]) (fun k=>[(11,I J k),(10,I J ks.length),(9,Z K ks.length kc),(1,I J p),(3,.pointer (F ⟨b3,0,O⟩))]) (ks.length - ·) 0 ⟨by omega,fun j y hj=>by omega⟩ (fun w h=>h) ⟨rfl,rfl,rfl,rfl,rfl,trivial⟩ ?_;rintro k ⟨hkl,hne⟩
 repeat refine W ?_
 refine V.ifp (fun hlt=>?_) (fun hge=>?_)
 ·have hlt:k<ks.length:=by omega
  obtain⟨y,hy⟩:∃ y,ks[k]? =F y:=⟨_,List.getElem?_eq_getElem hlt⟩
  obtain⟨b,o,rfl,_,hc⟩:=hk k y hy
  repeat refine W ?_
  refine R.ix hlt ?_;refine R.lo 0 hc ?_
  repeat refine W ?_
  have hgo:Eg l p [y]=false->∀ (j:Nat) z,j<k+1->ks[j]? =F z->Eg l p [z]=false:=fun he j z hj hz=>by
   by_cases e:j=k
   ·subst e;rw[hy] at hz;cases hz;exact he
   ·exact hne j z (by omega) hz
  by_cases hp:p<l.length
  ·obtain⟨t,ht⟩:∃ t,l[p]? =F t:=⟨_,List.getElem?_eq_getElem hp⟩
   obtain⟨tb,ob,rfl,_,htc⟩:=hl p t ht;have h1:Eg l p [y]=(t.kind==y):=by unfold Eg;rw[ht];simp
   have h2:(t.kind==y)=true->Eg l p ks=true:=fun he=>by
    unfold Eg;rw[ht];exact List.any_eq_true.2 ⟨y,List.mem_of_getElem? hy,he⟩
   refine R.yes 20 hp ?_
   repeat refine W ?_
   refine R.ix hp ?_
   repeat refine W ?_
   refine R.lo 0 htc ?_
   repeat refine W ?_
   refine V.if (fun he=>?_) (fun he=>?_)
   ·repeat refine W ?_
    refine V.end fun w' h'=>?_;exact⟨by rw[h2 he];rfl,h'.1.below⟩
   ·repeat refine W ?_
    exact V.again (k+1) rfl ⟨hlt,hgo (h1.trans he)⟩
  ·have h1:Eg l p [y]=false:=by unfold Eg;rw[List.getElem?_eq_none (by omega)]
   refine R.no 20 hp ?_
   repeat refine W ?_
   exact V.again (k+1) rfl ⟨hlt,hgo h1⟩
 ·repeat refine W ?_
  refine V.end fun w' h'=>?_;refine⟨?_,h'.1.below⟩;have:Eg l p ks=false:=by
   cases h:Eg l p ks with
   | false=>rfl
   | true=>
    unfold Eg at h;cases ht:l[p]? with
    | none=>rw[ht] at h;cases h
    | some t=>
     rw[ht] at h;obtain⟨y,hy,he⟩:=List.any_eq_true.1 h;obtain⟨j,hj,rfl⟩:=List.getElem_of_mem hy;have:=hne j _ (by omega) (List.getElem?_eq_getElem hj);unfold Eg at this;rw[ht] at this;simp at this he;exact absurd he this
  rw[this];rfl
theorem Cb (no col:Int) (A:Option Addr) (n c:Nat) (er:Int) (w:Y):
  Calls Tryz.prog 112 #[enV no col A n c,I J er] w fun e w'=>e=.returned (.iface 214 (.agg #[I J no,I J er]))/\Below w.heap.size w w':=by
 refine V.enter _ Tryz.func112 (Mem.start (C:=A5) w) ?_
 repeat (first | refine W ?_ | refine R.new fun _ _=>?_)
 refine V.end fun w' h'=>?_;exact⟨rfl,h'.1.below⟩
def TS:Bg->Value
 | .dash=>.iface 292 (.agg #[])
 | .key=>.iface 293 (.agg #[])
 | .name s=>.iface 295 (.agg #[Q ⟨s.toArray⟩])
 | .plain=>.iface 333 (.agg #[])
theorem Mo {l:List C8} {p:Nat} {ks:List Int} (h0:ks.any (fun y=>(0:Int)==y)=false):Eg l p ks=ks.any fun y=>Zt l p==y:=by
 unfold Eg Zt;rw[List.getD_eq_getElem?_getD];cases h:l[p]? with
 | none=>exact h0.symm
 | some t=>rfl
theorem Ip (S:Nat->Prop) (no col:Int) (A:Option Addr) (c:Nat) (l:List C8) (w:Y) (hl:Hu w S A l):
  Calls Tryz.prog 151 #[enV no col A l.length c] w fun e w'=>e=.returned (TS (Ck l))/\Below w.heap.size w w':=by
 have hto:∀ {w':Y},B4 A5 w w'->Hu w' S A l:=fun hx=>hl.to fun b o v hb hv=>⟨hx.cell hv (fun e=>e),hb⟩
 have hb:Ck l=if Eg l 0 [5] then .dash else if Eg l 0 [1,2]&&Eg l 1 [6] then .key else if Eg l 0 [3]&&decide (l.length=1) then .name (l.getD 0 WK).str else .plain:=by
  unfold Ck;rw[Mo (by decide),Mo (by decide),Mo (by decide),Mo (by decide)];simp
 rw[hb];clear hb;refine V.enter _ Tryz.func151 (Mem.start (C:=A5) w) ?_;refine W ?_;refine R.new fun b1 h1=>?_
 repeat refine W ?_
 refine R.bs (m:=1) (cs:=[I J 5]) (bt:=3) (fun bk hb=>?_);refine R.c (fun w' h'=>Ml S (fun _=>True) no col A (F ⟨bk,0,O⟩) c 1 l 0 [5] w' (hto h'.1) (isRow (Cs.of_blk (h'.blk (List.Mem.head _)))) (by simp)) ?_
 repeat refine W ?_
 cases e1:Eg l 0 [5] with
 | true=>
  repeat refine W ?_
  refine V.end fun w' h'=>?_;exact⟨rfl,h'.1.below⟩
 | false=>
  repeat refine W ?_
  refine R.bs (m:=2) (cs:=[I J 1,I J 2]) (bt:=3) (fun bk hb=>?_);refine R.c (fun w' h'=>Ml S (fun _=>True) no col A (F ⟨bk,0,O⟩) c 2 l 0 [1,2] w' (hto h'.1) (isRow (Cs.of_blk (h'.blk (List.Mem.head _)))) (by simp)) ?_;have hlen:Eg l 0 [3]=true->0<l.length:=fun h=>by
   unfold Eg at h;cases ht:l[0]? with
   | none=>rw[ht] at h;cases h
   | some t=>exact(List.getElem?_eq_some_iff.1 ht).1
  cases e2:Eg l 0 [1,2]
  rotate_left
  repeat refine W ?_
  refine R.bs (m:=1) (cs:=[I J 6]) (bt:=3) (fun bk hb=>?_);refine R.c (fun w' h'=>Ml S (fun _=>True) no col A (F ⟨bk,0,O⟩) c 1 l 1 [6] w' (hto h'.1) (isRow (Cs.of_blk (h'.blk (List.Mem.head _)))) (by simp)) ?_
  repeat refine W ?_
  cases e3:Eg l 1 [6]
  rotate_left
  repeat refine W ?_
  refine V.end fun w' h'=>?_;exact⟨rfl,h'.1.below⟩;all_goals
   repeat refine W ?_
   refine R.bs (m:=1) (cs:=[I J 3]) (bt:=3) (fun bk hb=>?_);refine R.c (fun w' h'=>Ml S (fun _=>True) no col A (F ⟨bk,0,O⟩) c 1 l 0 [3] w' (hto h'.1) (isRow (Cs.of_blk (h'.blk (List.Mem.head _)))) (by simp)) ?_
   repeat refine W ?_
   cases e4:Eg l 0 [3]
   ·repeat refine W ?_
    refine V.end fun w' h'=>?_;exact⟨rfl,h'.1.below⟩
   ·have hl0:=hlen e4;obtain⟨t,ht⟩:∃ t,l[0]? =F t:=⟨_,List.getElem?_eq_getElem hl0⟩
    repeat refine W ?_
    by_cases h1:l.length=1
    ·obtain⟨b,o,rfl,_,hc⟩:=hl 0 t ht;refine V.re 20 (v:=.bool ((l.length:Int)==1)) (v':=.bool true) (by simp[h1]) ?_
     repeat refine W ?_
     refine R.ix (k:=0) hl0 ?_
     repeat refine W ?_
     refine R.lo 1 hc ?_
     repeat refine W ?_
     refine V.end fun w' h'=>?_;exact⟨by rw[decide_eq_true h1,List.getD_eq_getElem?_getD,ht];rfl,h'.1.below⟩
    ·refine V.re 20 (v:=.bool ((l.length:Int)==1)) (v':=.bool false) (by simp;omega) ?_
     repeat refine W ?_
     refine V.end fun w' h'=>?_;exact⟨by rw[decide_eq_false h1];rfl,h'.1.below⟩
end
section
set_option maxRecDepth 100000
section
variable {P:Program} {n:Nat} {ds:List Deferred} {d:Bool} {ops:Array Oper} {K:Act->Y->Prop} {i:Nat} {T pl pend:List Nat} {S Zf:Y->Prop} {l:Env} {t:Nat} {ty:TypeId} {ps:String} {af:Array Edge} {gd:Option (Nat×Bool)}
abbrev Abi (b o c k sz:Nat):Option Addr:=if c=k then F ⟨b,o,O⟩ else F ⟨b,o+k*sz,O⟩
theorem Ab9 {x y:Operand} {tt:TypeId} {b o m c k sz:Nat} (hk:k<=m) (hm:m<=c) (hu:P.underlying tt=F (.slice (P.elem tt))) (hs:∀ w,(sizeOf (P.elem tt)).run P w=.ok sz w) (hx:ev l x=F (Z (F ⟨b,o,O⟩) m c)) (hy:ev l y=F (I J k)) (a:Act) (w:Y) (ha:Kn n ds l a):
  (execOp a.eval ⟨F t,.slice tt x (F y) O O,ty,ps,af,gd⟩).run P w=.ok (.value (Z (Abi b o c k sz) (m - k) (c - k))) w:=by
 have h1:=run_sliceAt_slice (P:=P) (w:=w) tt (Z (F ⟨b,o,O⟩) m c) (F (I J k)) O O hu;have h2:=run_slice_l (P:=P) (w:=w) tt (F ⟨b,o,O⟩) m c hu .i64 k (by omega) (by omega);have h3:sliced (F ⟨b,o,O⟩) k m c sz=Z (Abi b o c k sz) (m - k) (c - k):=by
  unfold sliced;have h4:(⟨b,o,O⟩:Addr).add (k*sz)=⟨b,o+k*sz,O⟩:=by unfold Addr.add;split<;>simp_all
  unfold Abi;split
  ·rfl
  ·show Value.slice (F ((⟨b,o,O⟩:Addr).add (k*sz))) _ _=_;rw[h4]
 simp[execOp,ha.ev hx,ha.ev hy,h1,h2,hs,h3,Sem.run_bind,Sem.run,pure,Result.andThen]
theorem R.sl {x y:Operand} {tt:TypeId} {b o m c k sz:Nat} (hk:k<=m) (hm:m<=c) (h:∀ A',(k<m->A'=F ⟨b,o+k*sz,O⟩)->Rj P n ds d ops K pl pend S ((t,Z A' (m - k) (c - k))::l)) (hu:P.underlying tt=F (.slice (P.elem tt)):=by kernel_rfl) (hs:∀ w,(sizeOf (P.elem tt)).run P w=.ok sz w:=by intro w;kernel_rfl) (ho:AQ ops.toList i=F ⟨F t,.slice tt x (F y) O O,ty,ps,af,gd⟩:=by rfl)
  (hx:ev l x=F (Z (F ⟨b,o,O⟩) m c):=by rfl) (hy:ev l y=F (I J k):=by rfl) (hg:D0 ops.toList l gd=F true:=by rfl):Rj P n ds d ops K (i::pl) pend S l:=
 R.takeP ho hg rfl (by rw[if_pos rfl];exact fun a w ha=>Ab9 hk hm hu hs hx hy a w ha) (h _ (fun hlt=>by unfold Abi;rw[if_neg (by omega)]))
theorem Zz.sl {x y:Operand} {tt:TypeId} {b o m c k sz:Nat} (hk:k<=m) (hm:m<=c) (h:∀ A',(k<m->A'=F ⟨b,o+k*sz,O⟩)->Rz P n ds d ops K T pl pend Zf S ((t,Z A' (m - k) (c - k))::l)) (hz:∀ w,S w->Zf w:=by exact fun w h=>h.sel) (hu:P.underlying tt=F (.slice (P.elem tt)):=by kernel_rfl) (hs:∀ w,(sizeOf (P.elem tt)).run P w=.ok sz w:=by intro w;kernel_rfl) (ho:AQ ops.toList i=F ⟨F t,.slice tt x (F y) O O,ty,ps,af,gd⟩:=by rfl)
  (hx:ev l x=F (Z (F ⟨b,o,O⟩) m c):=by rfl) (hy:ev l y=F (I J k):=by rfl) (hg:D0 ops.toList l gd=F true:=by rfl):Rz P n ds d ops K T (i::pl) pend Zf S l:=
 Zz.take false hz ho hg rfl (by rw[if_pos rfl];exact fun a w ha _=>Ab9 hk hm hu hs hx hy a w ha) (h _ (fun hlt=>by unfold Abi;rw[if_neg (by omega)]))
end
abbrev D8:=En×Option Addr×Nat
def Oi (x:D8):List Value:=enC x.1.no x.1.col x.2.1 x.1.l.length x.2.2
def epV (x:D8):Value:=enV x.1.no x.1.col x.2.1 x.1.l.length x.2.2
structure EnQ where
 A:Option Addr
 v:Value
 pre:List Value
 c:Nat
 n:Nat
abbrev rdB (rb:Nat) (A:Option Addr) (n c:Nat):Aw:=blk rb [Z A n c] 157
abbrev NQ (v:Value) (n:Nat) (xs:List Value):Aw:=An 219 3 v n xs
def EnO (es:List D8) (q:EnQ):Prop:=es.length<=q.c/\(es≠[]->∃ b cn,q.A=F ⟨b,q.pre.length,O⟩/\q.v=Z (F ⟨b,0,O⟩) q.n cn)
def E3 (rb:Nat) (es:List D8):Aw:=JB fun q:EnQ=>star [pr (EnO es q),rdB rb q.A es.length q.c,NQ q.v q.n (q.pre++es.flatMap Oi)]
section
variable {C:Nat->Prop} {w0 w:Y} {Zz:List Aw} {rb:Nat} {x:D8} {r es:List D8}
theorem Sf (h:Mem C w0 (E3 rb (x::r)::Zz) w):∃ q:EnQ×Nat×Nat,(x::r).length<=q.1.c/\Mem C w0 (rdB rb (F ⟨q.2.1,q.1.pre.length,O⟩) (x::r).length q.1.c::NQ (Z (F ⟨q.2.1,0,O⟩) q.1.n q.2.2) q.1.n (q.1.pre++(x::r).flatMap Oi)::Zz) w:=by
 obtain⟨q,hq⟩:=h.ex;have hs:=hq.star;obtain⟨_,⟨h1,h2⟩,_⟩:=hs.has (X:=pr (EnO (x::r) q)) (by simp);obtain⟨b,cn,e1,e2⟩:=h2 (by simp);refine⟨(q,b,cn),h1,?_⟩;rw[<- e1,<- e2];exact hs.sub (.cons _ (List.Sublist.refl _))
theorem SM {b c n cn:Nat} {pre:List Value} (h:Mem C w0 (rdB rb (F ⟨b,pre.length,O⟩) es.length c::NQ (Z (F ⟨b,0,O⟩) n cn) n (pre++es.flatMap Oi)::Zz) w) (hc:es.length<=c):Mem C w0 (E3 rb es::Zz) w:=by
 have h2:=h.pr (p:=EnO es ⟨F ⟨b,pre.length,O⟩,Z (F ⟨b,0,O⟩) n cn,pre,c,n⟩) ⟨hc,fun _=>⟨b,cn,rfl,rfl⟩⟩;exact Mem.toEx (⟨F ⟨b,pre.length,O⟩,Z (F ⟨b,0,O⟩) n cn,pre,c,n⟩:EnQ) (Mem.toStar (B:=[_,_,_]) h2)
theorem Afr {A:Option Addr} {v:Value} {n c:Nat} {pre:List Value} (h:Mem C w0 (rdB rb A 0 c::NQ v n pre::Zz) w):Mem C w0 (E3 rb []::Zz) w:=by
 have h2:=h.pr (p:=EnO [] ⟨A,v,pre,c,n⟩) ⟨Nat.zero_le _,fun h=>absurd rfl h⟩;refine Mem.toEx (⟨A,v,pre,c,n⟩:EnQ) (Mem.toStar (B:=[_,_,_]) ?_);dsimp only
 rw[show pre++List.flatMap Oi []=pre by simp];exact h2
theorem EQ (rb:Nat) (x:D8) (r:List D8) (C:Nat->Prop) (w0 w:Y) (Zz:List Aw) (h:Mem C w0 Zz w) (hx:E3 rb (x::r)∈Zz) (hn:(x::r).length<=1000000):
  Calls Tryz.prog 110 #[.pointer (F ⟨rb,0,O⟩)] w fun e w'=>e=.returned (.tuple #[epV x,.bool true])/\Below w.heap.size w w':=by
 obtain⟨Fz,⟨⟨A,v,pre,c,N⟩,F3,⟨hcc,hoff⟩,s0,F1,⟨hb,hR⟩,s1,F2,ho,_⟩,_⟩:=h.has hx;obtain⟨b,cN,e1,e2⟩:=hoff (by simp);dsimp only at hR ho hcc e1 e2;subst e1 e2;have hc:Cs w rb 0 [Z (F ⟨b,pre.length,O⟩) (x::r).length c]:=Cs.of_blk hR;have hrow:=(An.cs ho).drop pre.length;rw[List.drop_left,Nat.zero_add] at hrow;have hxc:Cs w b pre.length (Oi x):=fun j u hj=>hrow j u (by rw[List.flatMap_cons,List.getElem?_append_left (List.getElem?_eq_some_iff.1 hj).1];exact hj);refine V.enter _ Tryz.func110 (Mem.start (C:=A5) w) ?_;refine W ?_;refine R.new fun b2 h2=>?_
 repeat refine W ?_
 refine R.lo 0 hc ?_
 repeat refine W ?_
 refine R.lo 0 hc ?_
 repeat refine W ?_
 refine R.lo (m:=3) 0 hxc ?_
 repeat refine W ?_
 refine V.end (fun w' h'=>?_) (hv:=.agg rfl (by(repeat (first | exact List.Mem.head _ | apply List.Mem.tail))) (by intro w;kernel_rfl) (by intro w;simp;try rfl) (.tmp rfl .nil));exact⟨rfl,h'.1.below⟩
theorem FG (rb:Nat) (C:Nat->Prop) (w0 w:Y) (Zz:List Aw) (h:Mem C w0 Zz w) (hx:E3 rb []∈Zz):
  Calls Tryz.prog 110 #[.pointer (F ⟨rb,0,O⟩)] w fun e w'=>e=.returned (.tuple #[enV 0 0 O 0 0,.bool false])/\Below w.heap.size w w':=by
 obtain⟨Fz,⟨⟨A,v,pre,c,N⟩,F3,_,s0,F1,⟨hb,hR⟩,_⟩,_⟩:=h.has hx;have hc:Cs w rb 0 [Z A 0 c]:=Cs.of_blk hR;refine V.enter _ Tryz.func110 (Mem.start (C:=A5) w) ?_;refine W ?_;refine R.new fun b2 h2=>?_
 repeat refine W ?_
 refine R.lo 0 hc ?_
 repeat refine W ?_
 refine V.end (fun w' h'=>?_) (hv:=.agg rfl (by(repeat (first | exact List.Mem.head _ | apply List.Mem.tail))) (by intro w;kernel_rfl) (by intro w;simp;try rfl) (.tmp rfl .nil));exact⟨rfl,h'.1.below⟩
theorem KC (rb:Nat) (x:D8) (r:List D8) (w:Y) (hn:(x::r).length<=1000000):
  Dm Tryz.prog 153 #[.pointer (F ⟨rb,0,O⟩)] w (E3 rb (x::r)) (fun _=>True) (fun _:Unit=>.tuple #[]) (fun _=>E3 rb r):=by
 intro Fz hX hF _;refine V.enter _ Tryz.func153 (Mem.startX hX hF) ?_;refine V.any (fun w h=>Sf h) (fun q=>?_);obtain⟨⟨A,v,pre,c,N⟩,b,cN⟩:=q;refine V.know (fun w h=>h.1) (fun hcc=>?_);refine V.pre (S':=Mem Fz w [rdB rb (F ⟨b,pre.length,O⟩) (x::r).length c,NQ (Z (F ⟨b,0,O⟩) N cN) N (pre++(x::r).flatMap Oi)]) ?_ (fun w h=>h.2);dsimp only at hcc
 repeat refine W ?_
 refine R.sl (k:=1) (sz:=3) (by simp) hcc (fun A' hA'=>?_)
 repeat refine W ?_
 refine V.end fun w' h'=>?_;refine⟨(),rfl,?_⟩;have h2:Mem Fz w [rdB rb A' r.length (c - 1),NQ (Z (F ⟨b,0,O⟩) N cN) N (pre++(x::r).flatMap Oi)] w':=h'.sel;cases r with
 | nil=>exact Mem.toW (Afr h2)
 | cons y r=>
  obtain rfl:=hA' (by simp);rw[List.flatMap_cons,<- List.append_assoc,show pre.length+1*3=(pre++Oi x).length by rw[List.length_append];rfl] at h2;exact Mem.toW (SM h2 (by simp at hcc |-;omega))
theorem Agn (rb:Nat) (x y:D8) (r:List D8) (w:Y) (hn:(x::r).length<=1000000):
  Dm Tryz.prog 226 #[.pointer (F ⟨rb,0,O⟩),epV y] w (E3 rb (x::r)) (fun _=>True) (fun _:Unit=>.tuple #[]) (fun _=>E3 rb (y::r)):=by
 intro Fz hX hF _;refine V.enter _ Tryz.func226 (Mem.startX hX hF) ?_;refine V.any (fun w h=>Sf h) (fun q=>?_);obtain⟨⟨A,v,pre,c,N⟩,b,cN⟩:=q;refine V.know (fun w h=>h.1) (fun hcc=>?_);refine V.pre (S':=Mem Fz w [rdB rb (F ⟨b,pre.length,O⟩) (x::r).length c,NQ (Z (F ⟨b,0,O⟩) N cN) N (pre++(x::r).flatMap Oi)]) ?_ (fun w h=>h.2);dsimp only at hcc;refine W ?_;refine R.new fun b3 h3=>?_
 repeat refine W ?_
 refine W ?_ (by exact R.sw (xs':=pre++(y::r).flatMap Oi) (Ee pre _ 0 _ _ (Il (Oi x) 0 (Oi y) (Oi y) _ rfl)) (hp:=.inr (.inl ⟨rfl,by kernel_rfl⟩)))
 repeat refine W ?_
 refine V.end fun w' h'=>?_;exact⟨(),rfl,Mem.toW (SM (es:=y::r) h'.sel hcc)⟩
end
end
section
set_option maxRecDepth 100000
section
variable {P:Program} {Fz:Fence} {Qr:Exit->Act->Y->Prop} {n:Nat} {ds:List Deferred} {k:List KL} {l:Env} {C:Nat->Prop} {w0:Y} {A A' B:List Aw} {β:Type} {f:β->Aw}
theorem V.us (h:V P Fz Qr n ds k (Mem C w0 (B++A')) l) (hk:Pk (Go.Proofs.YtdpppepmkeinaaaGreatDoor.star B) A A':=by(repeat (first | exact Pk.hd | apply Pk.tl));first | done | fail):V P Fz Qr n ds k (Mem C w0 A) l:=V.pre (V.star h) (fun w hw=>hw.pk hk)
theorem V.ux (h:∀ x,V P Fz Qr n ds k (Mem C w0 (f x::A')) l) (hk:Pk (JB f) A A':=by(repeat (first | exact Pk.hd | apply Pk.tl));first | done | fail):V P Fz Qr n ds k (Mem C w0 A) l:=V.pre (V.ex h) (fun w hw=>hw.pk hk)
end
section
variable {P:Program} {n:Nat} {ds:List Deferred} {l:Env} {t:Nat} {ty:TypeId} {ps:String} {af:Array Edge} {gd:Option (Nat×Bool)} {C:Nat->Prop} {w0:Y} {A Z0:List Aw}
theorem D.cq {ι:Type} {v:ι->Value} {X:Aw} {Qz:(Nat->Prop)->Prop} {X':ι->Aw} {f:FuncId} {fn:Operand} {fs cs:Array Value} {args:List Operand} {ts:Array TypeId} {vs aa:List Value}
  (hc:∀ w,Mem C w0 A w->Dm P f aa.toArray w X Qz v X') (hq:∀ Fz:Nat->Prop,(∀ b,Fz b->w0.heap.size<=b\/C b)->Qz Fz) (hk:Pk X A Z0:=by(repeat (first | exact Pk.hd | apply Pk.tl));first | done | fail)
  (hf:ev l fn=F (.func (.func f) fs cs):=by rfl) (hs:evs l args=F vs:=by rfl) (he:fs.toList++(vs++cs.toList)=aa:=by rfl) (hr:∀ args w,(callFunc f args).run P w=.ok (.enter f args) w:=by intro args w;simp;first | done | fail):
  Does P n ds ⟨F t,.call {callee:=.value fn,args:=args.toArray,argTypes:=ts},ty,ps,af,gd⟩ (Mem C w0 A) l (fun x=>Mem C w0 (X' x::Z0)) (fun x=>(t,v x)::l):=fun a w K' ha hd hw hk'=>by
 obtain⟨Fz,h1,h2,h3⟩:=hw.own hk;unfold FI;rw[FQ ha hf hs hr he];exact(hc w hw Fz h1 (fun b hb=>(h2 b hb).1) (hq Fz fun b hb=>(h2 b hb).2)).mono fun e w' ⟨x,he,F',hx,hf,hi⟩=>⟨_,he,hk' x _ _ (h3 _ F' w' hi hx hf) (hd _)⟩
theorem D.c {v:Value} {f:FuncId} {fn:Operand} {fs cs:Array Value} {args:List Operand} {ts:Array TypeId} {vs aa:List Value}
  (hc:∀ w,Mem C w0 A w->Calls P f aa.toArray w fun e w'=>e=.returned v/\Below w.heap.size w w')
  (hf:ev l fn=F (.func (.func f) fs cs):=by rfl) (hs:evs l args=F vs:=by rfl) (he:fs.toList++(vs++cs.toList)=aa:=by rfl) (hr:∀ args w,(callFunc f args).run P w=.ok (.enter f args) w:=by intro args w;simp;first | done | fail):
  Does P n ds ⟨F t,.call {callee:=.value fn,args:=args.toArray,argTypes:=ts},ty,ps,af,gd⟩ (Mem C w0 A) l (fun _:Unit=>Mem C w0 A) (fun _=>(t,v)::l):=fun a w K' ha hd hw hk'=>by
 unfold FI;rw[FQ ha hf hs hr he];exact(hc w hw).mono (by rintro e w' ⟨rfl,hb⟩;exact⟨_,rfl,hk' () _ _ (hw.below hb) (hd _)⟩)
end
def Oq (no e:Int):Value:=.iface 214 (.agg #[I J no,I J e])
def RK (col:Int):List D8->Value
 | []=>.nilIface
 | x::_=>if x.1.col<col then .nilIface else if col<x.1.col then Oq x.1.no 92 else Oq x.1.no 93
theorem SU (rb:Nat) (es:List D8) (col:Int) (C:Nat->Prop) (w0 w:Y) (Zz:List Aw) (h:Mem C w0 Zz w) (hx:E3 rb es∈Zz) (hn:es.length<=1000000):
  Calls Tryz.prog 192 #[.pointer (F ⟨rb,0,O⟩),I J col] w fun e w'=>e=.returned (RK col es)/\Below w.heap.size w w':=by
 refine V.enter _ Tryz.func192 (Mem.start (C:=A5) w) ?_;cases es with
 | nil=>
  repeat refine W ?_
  refine R.c (fun w' h'=>FG rb C w0 w' Zz (h.below h'.1.below) hx) ?_
  repeat (first | refine W ?_ | refine R.new fun _ _=>?_)
  refine V.end fun w' h'=>?_;exact⟨rfl,h'.1.below⟩
 | cons x r=>
  obtain⟨⟨no,cl,l⟩,A,c⟩:=x
  repeat refine W ?_
  refine R.c (fun w' h'=>EQ rb _ r C w0 w' Zz (h.below h'.1.below) hx hn) ?_
  repeat (first | refine W ?_ | refine R.new fun _ _=>?_)
  unfold RK;dsimp only
  refine V.ifp (fun h=>?_) (fun h=>?_)
  ·rw[if_pos h]
   repeat refine W ?_
   refine V.end fun w' h'=>?_;exact⟨rfl,h'.1.below⟩
  ·rw[if_neg h]
   repeat refine W ?_
   refine V.ifp (fun h2=>?_) (fun h2=>?_)
   ·rw[if_pos h2]
    repeat refine W ?_
    refine R.c (fun w' h'=>Cb no cl A l.length c 92 w') ?_
    repeat refine W ?_
    refine V.end fun w' h'=>?_;exact⟨rfl,h'.1.below⟩
   ·rw[if_neg h2]
    repeat refine W ?_
    refine R.c (fun w' h'=>Cb no cl A l.length c 93 w') ?_
    repeat refine W ?_
    refine V.end fun w' h'=>?_;exact⟨rfl,h'.1.below⟩
structure I7 where
 w0:Y
 wB:Y
 g:Nat->Prop
 tabs:BU w0
 err:Ea.ErrC w0
 bel:Below w0.heap.size w0 wB
 gl:∀ b,g b->w0.heap.size<=b
def Ll (Wo:I7) (w:Y):Prop:=B4 Wo.g Wo.wB w
def BnW (Wo:I7) (Fz:Nat->Prop):Prop:=∀ b,Fz b->Wo.wB.heap.size<=b\/Wo.g b
section
variable {Wo:I7} {w w':Y} {Fz:Nat->Prop}
theorem Ll.ext (h:Ll Wo w) (hF:BnW Wo Fz) (hx:B4 Fz w w'):Ll Wo w':=B4.trans h hx (fun x hlt hf=>(hF x hf).elim (fun h=>by omega) id)
theorem Ll.of (h:Ll Wo w) (hF:BnW Wo Fz) (G:Nat->Prop) (hG:∀ b,G b->w.heap.size<=b\/Fz b):BnW Wo G:=fun b hb=>(hG b hb).elim (fun e=>.inl (Nat.le_trans h.size e)) (hF b)
theorem Ll.base (h:Ll Wo w):Below Wo.w0.heap.size Wo.w0 w:=⟨h.os.trans Wo.bel.os,h.tape.trans Wo.bel.tape,h.output.trans Wo.bel.output,Nat.le_trans Wo.bel.size h.size,fun k hk=>(h.block k (Nat.lt_of_lt_of_le hk Wo.bel.size) (fun e=>by have:=Wo.gl k e;omega)).trans (Wo.bel.block k hk)⟩
theorem Ll.tabs (h:Ll Wo w):BU w:=Wo.tabs.below h.base
theorem Ll.err (h:Ll Wo w):Ea.ErrC w:=Wo.err.to (B4.of_below (C:=A5) h.base) (fun e=>e)
end
def PcO (Wo:I7) (b:Nat):Prop:=b<Wo.wB.heap.size/\¬Wo.g b
structure EpP (Wo:I7) (x:D8):Prop where
 tks:Hu Wo.wB (PcO Wo) x.2.1 x.1.l
 len:x.1.l.length<=1000000
 small:∀ t∈x.1.l,t.str.length<=1000000
 cap:x.1.l.length<=x.2.2
 g:GdN x.1
theorem Ll.cs {Wo:I7} {w:Y} (h:Ll Wo w) {b o:Nat} {vs:List Value} (hc:Cs Wo.wB b o vs) (hb:PcO Wo b):Cs w b o vs:=fun j u hj=>h.cell (hc j u hj) hb.2
theorem PcO.not {Wo:I7} {Fz:Nat->Prop} {b:Nat} (hb:PcO Wo b) (hF:BnW Wo Fz):¬Fz b:=fun e=>(hF b e).elim (fun h=>by have:=hb.1;omega) hb.2
theorem Ll.tks {Wo:I7} {w:Y} (h:Ll Wo w) {A:Option Addr} {l:List C8} (ht:Hu Wo.wB (PcO Wo) A l):Hu w (fun b=>b<w.heap.size) A l:=ht.to fun b o v hb hv=>⟨h.cell hv hb.2,Nat.lt_of_lt_of_le hb.1 h.size⟩
theorem Ll.rd {Wo:I7} {w:Y} (h:Ll Wo w) {A:Option Addr} {l:List C8} (ht:Hu Wo.wB (PcO Wo) A l) (hl:l.length<=1000000) (hs:∀ t∈l,t.str.length<=1000000):Ok w A l:=⟨h.tks ht,hl,hs,h.tabs⟩
def H2 (Wo:I7) (es:List D8):Prop:=∀ x∈es,EpP Wo x
theorem H2.tl {Wo:I7} {x:D8} {r:List D8} (h:H2 Wo (x::r)):H2 Wo r:=fun y hy=>h y (List.mem_cons_of_mem _ hy)
def Zr:BR->Value
 | .bad no e=>Oq no e
 | _=>.nilIface
def brV (r:BR) (y:TY):Value:=.tuple #[.agg (AM y).toArray,Zr r]
def Uq (Wo:I7) (rb:Nat) (r:BR) (x:TY×List D8):Aw:=match r with
 | .ok t rest=>star [E3 rb x.2,A9 (AM x.1) t,pr (x.2.map (·.1)=rest/\H2 Wo x.2)]
 | .bad _ _=>star [E3 rb x.2,pr (x.2.length<=1000000)]
 | .out=>pr False
def BkC (Wo:I7) (es:List D8) (f:FuncId) (aa:List Value) (res:BR):Prop:=∀ (rb:Nat) (w:Y),Ll Wo w->Dm Tryz.prog f (Value.pointer (F ⟨rb,0,O⟩)::aa).toArray w (E3 rb es) (BnW Wo) (fun x:TY×List D8=>brV res x.1) (Uq Wo rb res)
section
variable {Wo:I7} {C Fz:Nat->Prop} {w0 w w':Y} {Zz:List Aw} {rb:Nat} {es:List D8} {y:TY} {t:Tr} {rest:List En} {no e:Int}
theorem PB (h:Mem Fz w [E3 rb es,A9 (AM y) t] w') (hp:es.map (·.1)=rest/\H2 Wo es):∃ F':Nat->Prop,B4 Fz w w'/\(∀ b,F' b->b<w'.heap.size/\(Fz b\/w.heap.size<=b))/\(Uq Wo rb (.ok t rest) (y,es)).is F' w':=
 Mem.toW (Mem.toStar (B:=[_,_,_]) (A:=[]) ((h.pr (p:=es.map (·.1)=rest/\H2 Wo es) hp).sel))
theorem EP (h:Mem Fz w [E3 rb es] w') (hp:es.length<=1000000):∃ F':Nat->Prop,B4 Fz w w'/\(∀ b,F' b->b<w'.heap.size/\(Fz b\/w.heap.size<=b))/\(Uq Wo rb (.bad no e) (y,es)).is F' w':=
 Mem.toW (Mem.toStar (B:=[_,_]) (A:=[]) ((h.pr (p:=es.length<=1000000) hp).sel))
end
section
variable {P:Program} {n:Nat} {ds:List Deferred} {k:List KL} {l:Env} {fn:Func} {R:Ending->Y->Prop} {C:Nat->Prop} {w0:Y} {A A':List Aw} {vs cs:List Value} {x b:Nat} {ty bt:TypeId} {rs:List ResultVar}
theorem V.eA (hR:∀ w,Mem C w0 A' w->R (.returned (one (.agg cs.toArray::vs))) w) (hf:fn.results.toList=.cell x ty::rs:=by rfl) (hx:lk l x=F (.pointer (F ⟨b,0,O⟩)):=by rfl) (hm:Marks ds A A':=by repeat (first | exact Marks.nil | (apply Marks.cons;(repeat (first | exact E5.hd | apply E5.tl))))) (hb:blk b cs bt∈A':=by(repeat (first | exact List.Mem.head _ | apply List.Mem.tail));first | done | fail) (ht:∀ w,(isAgg ty).run P w=.ok true w:=by intro w;kernel_rfl) (hs:∀ w,(sizeOf ty).run P w=.ok cs.length w:=by intro w;simp;try rfl)
  (hr:RV P l A' rs vs:=by repeat (first | exact RV.nil | (apply RV.tmp;rfl))) (h:IP 400 O k=.ret\/IP 400 O k=.fin:=by first | exact .inl rfl | exact .inr rfl):V P Fence.wide (bodyPostM Fence.wide 0 P fn R) n ds k (Mem C w0 A) l:=
 V.end hR h hm (by rw[hf];exact .agg hx hb ht hs hr)
end
end
end Go.Proofs.YtdpppepmkeinaaaGreatDoor
