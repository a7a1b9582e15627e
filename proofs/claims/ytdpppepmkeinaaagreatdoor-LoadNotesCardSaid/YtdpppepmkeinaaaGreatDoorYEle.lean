import Derived.Test.YtdpppepmkeinaaaGreatDoorYh
import Derived.Test.YtdpppepmkeinaaaGreatDoorYm
import Derived.Test.YtdpppepmkeinaaaGreatDoorYu
import Derived.Test.YtdpppepmkeinaaaGreatDoorYl
import Derived.Test.YtdpppepmkeinaaaGreatDoorYv
import Derived.Test.YtdpppepmkeinaaaGreatDoorYxj
import Derived.Test.YtdpppepmkeinaaaGreatDoorYp
import Derived.Test.YtdpppepmkeinaaaGreatDoorYxi
import Derived.Test.YtdpppepmkeinaaaGreatDoorYxm
import Derived.Test.YtdpppepmkeinaaaGreatDoorYxs
import Derived.Test.YtdpppepmkeinaaaGreatDoorYt
import Derived.Test.YtdpppepmkeinaaaGreatDoorProg
import Derived.Test.YtdpppepmkeinaaaGreatDoorYxo
import Derived.Test.YtdpppepmkeinaaaGreatDoorYx
/- What is proved: the law returns true whatever comes in; no condition beside those that each theorem names. -/
namespace Go.Proofs.YtdpppepmkeinaaaGreatDoor
set_option maxHeartbeats 32000000
open Go Go.RowKit Go.Lib
open Go.Value renaming int->I,string->Q,slice->Z
open Go.IntKind renaming i64->J
open Option renaming none->O,some->F
open _root_.Go renaming World->Y
set_option linter.unusedSimpArgs false
set_option linter.unusedVariables false
open Go Go.Lib
set_option linter.unusedSectionVars false
open Go
open Go Go.RowKit
set_option maxRecDepth 100000
section
theorem B6:∀ (n:Nat) (l m:List UInt8),l.length<=n->validD l=true->Ag (l++m)=Ag l++Ag m
 | n,[],m,_,_=>rfl
 | 0,c::t,m,h,_=>by simp at h
 | n+1,c::t,m,h,hv=>by
  have hne:c::t≠[]:=by simp
  have hw:=decodeL_width (c::t);rw[Av (c::t++m) (by simp),Av (c::t) hne,EC _ m hne hv,List.drop_append_of_le_length (decodeL_le _ hne),B6 n _ m (by rw[List.length_drop];simp at h |-;omega) (Cu _ hne hv)];rfl
theorem AU (c:UInt8) (l:List UInt8) (h:c.toNat<128):Ag (c::l)=c.toNat::Ag l:=by
 rw[Av (c::l) (by simp),decodeL_ascii c l h];rfl
end
section
section num
variable {κ:Type} [DecidableEq κ]
theorem GH {x y:κ} {v:Int}:∀ {m:List (κ×Int)},AT y (mput x v m)=if x=y then F v else AT y m
 | []=>by simp[mput,AT]
 | (z,u)::r=>by
  unfold mput;by_cases e:z=x
  ·rw[if_pos e];subst e;by_cases h:z=y<;>simp[AT,h]
  ·rw[if_neg e];unfold AT;rw[GH];by_cases h:z=y
   ·rw[if_pos h,if_pos h,if_neg (by rw[<- h];exact fun h=>e h.symm)]
   ·rw[if_neg h,if_neg h]
end num
end
section
theorem NN {n m:Nat} (h:n<=m) {i:Int} (hi:Oj n i=true):Oj m i=true:=by
 unfold Oj at*
 simp only[Bool.and_eq_true,decide_eq_true_eq] at*
 omega
theorem I1 {n m:Nat} (h:n<=m) {l:List Int} (hl:l.all (Oj n)=true):l.all (Oj m)=true:=by
 rw[List.all_eq_true] at*
 exact fun x hx=>NN h (hl x hx)
theorem Lg {rt:Sc->Bool} {n m:Nat} (h:n<=m) {x:Nd} (hx:G5 rt n x=true):G5 rt m x=true:=by
 unfold G5 at*
 split at hx
 ·rename_i e;rw[if_pos e];exact hx
 ·rename_i e0;rw[if_neg e0];split at hx
  ·rename_i e;rw[if_pos e];rw[Bool.and_eq_true] at hx |-;exact⟨hx.1,I1 h hx.2⟩
  ·rename_i e1;rw[if_neg e1];split at hx
   ·rename_i e;rw[if_pos e];rw[Bool.and_eq_true] at hx |-;exact⟨hx.1,I1 h hx.2⟩
   ·cases hx
structure LK (rt:Sc->Bool) (s s':St) (at_:Nat) (vs:List Int):Prop where
 gd:Ih s'
 le:s.nodes.length<=s'.nodes.length
 old:∀ i,i<s.nodes.length->i≠at_->s'.nodes[i]? =s.nodes[i]?
 at_:s'.nodes[at_]? =(s.nodes[at_]?).map fun n=>{n with kids:=n.kids++vs}
 new:∀ i x,s.nodes.length<=i->s'.nodes[i]? =F x->G5 rt s'.nodes.length x=true
 rng:∀ v∈vs,0<=v/\v<s'.nodes.length
 rch:∀ i,s.nodes.length<=i->i<s'.nodes.length->∃ v∈vs,Rch s'.nodes v.toNat i
theorem BS (s:St) (a:Nat) (v:Int):(s.kid a v).nodes.length=s.nodes.length:=by simp[St.kid]
theorem CW (s:St) (a:Nat) (v:Int) (i:Nat):(s.kid a v).nodes[i]? =if i=a then (s.nodes[i]?).map (fun n=>{n with kids:=n.kids++[v]}) else s.nodes[i]? :=by
 unfold St.kid;rw[List.getElem?_modify];by_cases h:a=i
 ·subst h;simp
 ·rw[if_neg (fun e=>h e.symm)];simp[h]
mutual
theorem K6 {rt:Sc->Bool} {nb:ByteArray->Bool}:∀ (t:Tr) (deep:Int) (s s':St) (v:Int),BO (BY rt nb) deep t s=(s',v,0)->Ih s->LT rt s s' v
 | .mk k nm x ks ts,deep,s,s',v,h,hg=>by
  unfold BO at h;split at h
  ·rename_i hc;obtain⟨_,hsb,hdup,h3,h200⟩:=K4 (show F7 (BD rt (nb nm) k nm x ks ts.length) (!decide ks.Nodup) k deep (AT nm s.names).isSome s.nodes.length=0 from hc);split at h
   ·rename_i hk;obtain⟨u,hu⟩:=Option.isSome_iff_exists.1 (h3 hk);rw[hu] at h;simp only[Prod.mk.injEq] at h;obtain⟨rfl,rfl,_⟩:=h;exact⟨hg,Nat.le_refl _,fun i _=>rfl,fun i x hi hx=>by have:=(List.getElem?_eq_some_iff.1 hx).1;omega,hg.names _ _ hu,fun i h1 h2=>by omega⟩
   ·rename_i hk;dsimp only at h;split at h
    ·rename_i hr;simp only[Prod.mk.injEq] at h;obtain⟨hs',rfl,_⟩:=h;have hlen:s.nodes.length<200:=by have:=hg.len;have:=h200 hk;omega
     have hnl:(s.node k nm x ks).nodes.length=s.nodes.length+1:=by simp[St.node]
     have hg1:Ih (s.node k nm x ks):=by
      refine⟨fun m u hu=>?_,by omega⟩;rw[hnl];unfold St.node at hu;dsimp only at hu;split at hu
      ·have:=hg.names m u hu;omega
      ·rw[GH] at hu;split at hu
       ·cases hu;omega
       ·have:=hg.names m u hu;omega
     obtain⟨vs,hvl,hK⟩:=JJ (rt:=rt) (nb:=nb) ts deep s.nodes.length (s.node k nm x ks) s' (by omega) (by rw[<- hs',<- hr]) hg1;have hat:s'.nodes[s.nodes.length]? =F ⟨k,x,ks,vs⟩:=by
      rw[hK.at_];simp[St.node]
     have hle:=hK.le;have hrg:∀ v∈vs,Oj s'.nodes.length v=true:=fun v hv=>by
      have:=hK.rng v hv;unfold Oj;simp only[Bool.and_eq_true,decide_eq_true_eq];omega
     refine⟨hK.gd,by omega,fun i hi=>?_,fun i y hi hy=>?_,by omega,fun i h1 h2=>?_⟩
     ·rw[hK.old i (by omega) (by omega)];exact List.getElem?_append_left hi
     ·by_cases e:i=s.nodes.length
      ·subst e;rw[hat] at hy;cases hy
       unfold BD Fv at hsb;rw[Bool.and_eq_true] at hsb;have hsb:=hsb.1;have hd:decide ks.Nodup=true:=by simpa using hdup
       have hall:vs.all (Oj s'.nodes.length)=true:=List.all_eq_true.2 hrg;unfold G5;dsimp only
       split at hsb
       ·rename_i e;rw[if_pos e];unfold Nw at hsb;simp only[Bool.and_eq_true,decide_eq_true_eq] at hsb |-;exact⟨hsb.1,by omega⟩
       ·rename_i e;rw[if_neg e];split at hsb
        ·rename_i e;rw[if_pos e];unfold O3 at hsb;simp only[Bool.and_eq_true,decide_eq_true_eq] at hsb |-;exact⟨hsb,hall⟩
        ·rename_i e;rw[if_neg e];split at hsb
         ·rename_i e;rw[if_pos e];unfold Uz at hsb;simp only[Bool.and_eq_true,decide_eq_true_eq] at hsb |-;exact⟨⟨⟨hsb.1.1,by omega⟩,hsb.2,by simpa using hd⟩,hall⟩
         ·first | cases hsb | (rw[if_neg hk] at hsb;cases hsb)
      ·exact hK.new i y (by omega) hy
     ·rw[show((s.nodes.length:Nat):Int).toNat=s.nodes.length by omega];by_cases e:i=s.nodes.length
      ·subst e;exact .refl _
      ·obtain⟨u,hu,hr⟩:=hK.rch i (by omega) h2;exact .step hat hu hr
    ·rename_i hr;simp only[Prod.mk.injEq] at h;exact absurd h.2.2 hr
  ·rename_i hc;simp only[Prod.mk.injEq] at h;exact absurd h.2.2 hc
theorem JJ {rt:Sc->Bool} {nb:ByteArray->Bool}:∀ (ts:List Tr) (deep:Int) (a:Nat) (s s':St),a<s.nodes.length->D3 (BY rt nb) deep a ts s=(s',0)->Ih s->∃ vs:List Int,vs.length=ts.length/\LK rt s s' a vs
 | [],deep,a,s,s',ha,h,hg=>by
  unfold D3 at h;simp only[Prod.mk.injEq] at h;obtain⟨rfl,_⟩:=h;exact⟨[],rfl,hg,Nat.le_refl _,fun i _ _=>rfl,(by cases s.nodes[a]? <;>simp),fun i x hi hx=>by have:=(List.getElem?_eq_some_iff.1 hx).1;omega,fun v hv=>(by cases hv),fun i h1 h2=>(by omega)⟩
 | t::r,deep,a,s,s',ha,h,hg=>by
  unfold D3 at h;dsimp only at h;obtain⟨⟨s1,v,e⟩,hT⟩:∃ q,BO (BY rt nb) (deep+1) t s=q:=⟨_,rfl⟩
  rw[hT] at h;dsimp only at h;split at h
  ·rename_i he;subst he;have h1:=K6 t (deep+1) s s1 v hT hg;have hl:=h1.le;have hg2:Ih (s1.kid a v):=⟨fun nm u hu=>by rw[BS];exact h1.gd.names nm u hu,by rw[BS];exact h1.gd.len⟩
   obtain⟨vs,hvl,h2⟩:=JJ r deep a (s1.kid a v) s' (by rw[BS];omega) h hg2;have hl2:=h2.le;rw[BS] at hl2;have hv:=h1.rng;have hLe:LeN s1.nodes s'.nodes:=fun i x hx=>by
    have hi:=(List.getElem?_eq_some_iff.1 hx).1;by_cases e:i=a
    ·subst e;refine⟨_,by rw[h2.at_,CW,if_pos rfl,hx];rfl,fun k hk=>?_⟩;simp[hk]
    ·exact⟨x,by rw[h2.old i (by rw[BS];exact hi) e,CW,if_neg e,hx],fun k hk=>hk⟩
   refine⟨v::vs,by simp[hvl],h2.gd,by omega,fun i hi hne=>?_,?_,fun i x hi hx=>?_,fun u hu=>?_,fun i hi1 hi2=>?_⟩
   ·rw[h2.old i (by rw[BS];omega) hne,CW,if_neg hne,h1.old i hi]
   ·rw[h2.at_,CW,if_pos rfl,h1.old a ha];cases s.nodes[a]? <;>simp
   ·by_cases hi1:i<s1.nodes.length
    ·rw[h2.old i (by rw[BS];exact hi1) (by omega),CW,if_neg (by omega)] at hx;exact Lg hl2 (h1.new i x hi hx)
    ·exact h2.new i x (by rw[BS];omega) hx
   ·rcases List.mem_cons.1 hu with rfl | hu
    ·omega
    ·exact h2.rng u hu
   ·by_cases hi3:i<s1.nodes.length
    ·exact⟨v,List.mem_cons_self ..,(h1.rch i hi1 hi3).mono hLe⟩
    ·obtain⟨u,hu,hr⟩:=h2.rch i (by rw[BS];omega) hi2;exact⟨u,List.mem_cons_of_mem _ hu,hr⟩
  ·rename_i he;simp only[Prod.mk.injEq] at h;exact absurd h.2 he
end
structure NO (rt:Sc->Bool) (g:Gf):Prop where
 root:g.root=0
 pos:0<g.nodes.length
 len:g.nodes.length<=200
 ok:∀ x∈g.nodes,G5 rt g.nodes.length x=true
 rch:∀ i,i<g.nodes.length->Rch g.nodes 0 i
theorem GB {rt:Sc->Bool} {nb:ByteArray->Bool} {t:Tr} (h:(Al (BY rt nb) t).2=0):NO rt (Al (BY rt nb) t).1:=by
 unfold Al at h |-;split at h
 ·rename_i he;rw[if_pos he];obtain⟨⟨s',v,e⟩,hT⟩:∃ q,BO (BY rt nb) 1 t ⟨[],[]⟩=q:=⟨_,rfl⟩
  rw[hT] at he;dsimp only at he;subst he;have h1:=K6 t 1 ⟨[],[]⟩ s' v hT ⟨fun nm u hu=>(by cases hu),(by simp)⟩;rw[hT];have hv:v=0:=by
   cases t with
   | mk k nm x ks ts=>
    unfold BO at hT;split at hT
    ·rename_i hc;obtain⟨_,_,_,h3,_⟩:=K4 (show F7 (BD rt (nb nm) k nm x ks ts.length) (!decide ks.Nodup) k 1 (AT nm ([]:List (ByteArray×Int))).isSome 0=0 from hc);split at hT
     ·rename_i hk;have:=h3 hk;cases this
     ·dsimp only at hT;split at hT
      ·simp only[Prod.mk.injEq] at hT;exact hT.2.1.symm
      ·rename_i hr;simp only[Prod.mk.injEq] at hT;exact absurd hT.2.2 hr
    ·rename_i hc;simp only[Prod.mk.injEq] at hT;exact absurd hT.2.2 hc
  subst hv;have:=h1.rng;refine⟨rfl,by dsimp only;omega,h1.gd.len,fun x hx=>?_,fun i hi=>h1.rch i (Nat.zero_le _) hi⟩;obtain⟨i,hi,rfl⟩:=List.getElem_of_mem hx;exact h1.new i _ (Nat.zero_le _) (List.getElem?_eq_getElem hi)
 ·rename_i he;exact absurd h he
theorem Ed {chk:Tr->Int->St->Int} {t:Tr} (h:(Al chk t).2≠0):(Al chk t).1=G8:=by
 unfold Al at h |-;split at h
 ·exact absurd rfl h
 ·rename_i he;rw[if_neg he]
end
section
section
variable (ρ:Int->Int)
def JH (x:En):En:=⟨ρ x.no,x.col,x.l⟩
def W9:BR->BR
 | .ok t rest=>.ok t (rest.map (JH ρ))
 | .bad no e=>.bad (ρ no) e
 | .out=>.out
theorem Xc (no:Int) (l:List C8) (d:Nat) (rest:List En):C9 (ρ no) l d (rest.map (JH ρ))=W9 ρ (C9 no l d rest):=by
 unfold C9
 repeat (split;· rfl)
 rfl
theorem WZ (no:Int) (s:List UInt8) (b:BR):G9 (ρ no) s (W9 ρ b)=W9 ρ (G9 no s b):=by
 cases b with
 | ok t rest=>unfold W9 G9;simp only;split<;>rfl
 | bad n e=>rfl
 | out=>rfl
theorem R8 (col:Int) (t:Tr) (x:En) (r:List En):Dz col t (JH ρ x) (r.map (JH ρ))=W9 ρ (Dz col t x r):=by
 unfold Dz JH;simp only
 split
 ·rfl
 ·split<;>rfl
theorem Ag1:∀ n,(∀ m d l,AF n m d (l.map (JH ρ))=W9 ρ (AF n m d l))/\(∀ no m d l,belowB n (ρ no) m d (l.map (JH ρ))=W9 ρ (belowB n no m d l))∧
  (∀ d x r,B2 n d (JH ρ x) (r.map (JH ρ))=W9 ρ (B2 n d x r))/\(∀ col d l acc,BK n col d (l.map (JH ρ)) acc=W9 ρ (BK n col d l acc))∧
  (∀ d x r,B8 n d (JH ρ x) (r.map (JH ρ))=W9 ρ (B8 n d x r))/\(∀ col d l ks ts,AL n col d (l.map (JH ρ)) ks ts=W9 ρ (AL n col d l ks ts))
 | 0=>by refine⟨?_,?_,?_,?_,?_,?_⟩<;>intros<;>simp only[AF,belowB,B2,BK,B8,AL,W9]
 | n+1=>by
  obtain⟨hN,hB,hI,hS,hP,hD⟩:=Ag1 n;refine⟨fun m d l=>?_,fun no m d l=>?_,fun d x r=>?_,fun col d l acc=>?_,fun d x r=>?_,fun col d l ks ts=>?_⟩
  ·cases l with
   | nil=>simp only[List.map_nil,AF,W9]
   | cons x r=>
    rw[List.map_cons,AF,AF];simp only[show(JH ρ x).l=x.l from rfl,show(JH ρ x).no=ρ x.no from rfl,show(JH ρ x).col=x.col from rfl]
    by_cases hd:24<d
    ·rw[if_pos hd,if_pos hd];rfl
    ·rw[if_neg hd,if_neg hd];cases Ck x.l with
     | dash=>exact hS _ _ (x::r) _
     | key=>exact hD _ _ (x::r) _ _
     | name s=>simp only;rw[hB,WZ]
     | plain=>exact Xc _ _ _ _ _
  ·cases l with
   | nil=>rw[List.map_nil,belowB,belowB];split<;>rfl
   | cons x r=>
    rw[List.map_cons,belowB,belowB];simp only[show(JH ρ x).col=x.col from rfl]
    split
    ·exact hN m d (x::r)
    ·split<;>rfl
  ·rw[B2,B2];simp only[show(JH ρ x).l=x.l from rfl,show(JH ρ x).no=ρ x.no from rfl,show(JH ρ x).col=x.col from rfl]
   split
   ·exact hB _ _ _ _
   ·exact hN _ d (FO x::r)
  ·cases l with
   | nil=>simp only[List.map_nil,BK,W9]
   | cons x r=>
    rw[List.map_cons,BK,BK];simp only[show(JH ρ x).l=x.l from rfl,show(JH ρ x).col=x.col from rfl]
    split
    ·rw[hI];cases B2 n (d+1) x r with
     | ok t rest=>exact hS _ _ _ _
     | bad no e=>rfl
     | out=>rfl
    ·exact R8 ρ _ _ _ _
  ·rw[B8,B8];simp only[show(JH ρ x).l=x.l from rfl,show(JH ρ x).no=ρ x.no from rfl,show(JH ρ x).col=x.col from rfl]
   cases Ck (x.l.drop 2) with
   | name s=>simp only;rw[hB,WZ]
   | _=>
    simp only
    split
    ·exact hB _ _ _ _
    ·exact Xc _ _ _ _ _
  ·cases l with
   | nil=>simp only[List.map_nil,AL,W9]
   | cons x r=>
    rw[List.map_cons,AL,AL];simp only[show(JH ρ x).l=x.l from rfl,show(JH ρ x).col=x.col from rfl,show(JH ρ x).no=ρ x.no from rfl,show EA (JH ρ x).l=EA x.l from rfl]
    split
    ·split
     ·rfl
     ·rw[hP];cases B8 n (d+1) x r with
      | ok t rest=>exact hD _ _ _ _ _
      | bad no e=>rfl
      | out=>rfl
    ·exact R8 ρ _ _ _ _
def reL (x:IM):IM:=⟨ρ x.no,x.ind,x.s⟩
def reO:Za->Za
 | .ok es=>.ok (es.map (JH ρ))
 | .bad no e=>.bad (ρ no) e
theorem VS:∀ l:List IM,DW (l.map (reL ρ))=reO ρ (DW l)
 | []=>rfl
 | x::r=>by
  rw[List.map_cons,DW,DW];simp only[show(reL ρ x).s=x.s from rfl,show(reL ρ x).no=ρ x.no from rfl,show(reL ρ x).ind=x.ind from rfl]
  split
  ·rfl
  ·rw[VS r];cases DW r with
   | ok es=>rfl
   | bad no e=>rfl
theorem Abx (Fz:Nat) (l:List IM):(AZ Fz (l.map (reL ρ))).1=(AZ Fz l).1/\(AZ Fz (l.map (reL ρ))).2.2=(AZ Fz l).2.2:=by
 have h1:(l.map (reL ρ)).all Kq=l.all Kq:=by rw[List.all_map];rfl
 unfold AZ LF;rw[h1];split
 ·rename_i es he;split at he
  ·rw[VS] at he;rename_i hok;rw[if_pos hok];cases ho:DW l with
   | bad no e=>rw[ho] at he;cases he
   | ok es'=>
    rw[ho] at he;cases he
    dsimp only
    unfold CK;cases es' with
    | nil=>exact⟨rfl,rfl⟩
    | cons x r=>
     rw[if_neg (by simp),if_neg (by simp),(Ag1 ρ Fz).1];cases AF Fz (-1) 1 (x::r) with
     | ok t rest=>cases rest<;>exact⟨rfl,rfl⟩
     | bad no e=>exact⟨rfl,rfl⟩
     | out=>exact⟨rfl,rfl⟩
  ·cases he
 ·rename_i no e he;split at he
  ·rename_i hok;rw[if_pos hok];rw[VS] at he;cases ho:DW l with
   | ok es=>rw[ho] at he;cases he
   | bad no' e'=>rw[ho] at he;cases he;exact⟨rfl,rfl⟩
  ·rename_i hok;rw[if_neg hok];cases he;exact⟨rfl,rfl⟩
end
theorem Lh {chk:Tr->Int->St->Int} {Fz:Nat} {s t:List UInt8} (h1:(A3 Fz t).1=(A3 Fz s).1) (h2:(A3 Fz t).2.2=(A3 Fz s).2.2):(Aq chk Fz t).1=(Aq chk Fz s).1/\(Aq chk Fz t).2.2=(Aq chk Fz s).2.2:=by
 unfold Aq;rw[h1,h2];split<;>exact⟨rfl,rfl⟩
theorem Iz:∀ s:List UInt8,10∉rowOf s
 | []=>fun h=>by cases h
 | b::l=>fun h=>by
  unfold rowOf at h;rw[List.takeWhile_cons] at h;split at h
  ·rename_i hb;rcases List.mem_cons.1 h with e | h
   ·rw[<- e] at hb;exact absurd hb (by decide)
   ·exact Iz l h
  ·cases h
theorem Ac4 {x y:Sc} (h1:x.kind=y.kind) (h2:x.num=y.num) (h3:x.str=y.str):x=y:=by
 cases x;cases y
 simp only at h1 h2 h3;rw[h1,h2,h3]
theorem Aap (l:List UInt8) (n:Nat):Dt (l++List.replicate n 32)=Dt l:=by
 unfold Dt;rw[List.reverse_append,List.reverse_replicate];congr 1;induction n with
 | zero=>rfl
 | succ n ih=>rw[List.replicate_succ,List.cons_append,List.dropWhile_cons,if_pos (by decide),ih]
theorem Jo:∀ (l:List UInt8) (n:Nat),AK (l++List.replicate n 32)=if AK l=[] then [] else AK l++List.replicate n 32
 | [],n=>by
  show(List.replicate n (32:UInt8)).dropWhile (·==32)=_;rw[if_pos (show AK []=[] from rfl)];induction n with
  | zero=>rfl
  | succ n ih=>rw[List.replicate_succ,List.dropWhile_cons,if_pos (by decide)];exact ih
 | b::l,n=>by
  have ih:=Jo l n;unfold AK Lib.trimLeftB at ih |-;rw[List.cons_append,List.dropWhile_cons,List.dropWhile_cons];split
  ·exact ih
  ·rw[if_neg (by simp)];rfl
theorem Abm (r:List UInt8) (n:Nat):AO (r++List.replicate n 32)=AO r:=by
 unfold AO;rw[Jo];split
 ·rename_i h;rw[h]
 ·rename_i h;cases hl:AK r with
  | nil=>exact absurd hl h
  | cons b l=>rfl
theorem YO {r:List UInt8} (k n:Nat) (h:AO r=true):(AN k (r++List.replicate n 32)).num=(AN k r).num/\(AN k (r++List.replicate n 32)).str=(AN k r).str:=by
 have hne:AK r≠[]:=fun e=>by unfold AO at h;rw[e] at h;cases h
 unfold AN;dsimp only
 rw[Jo,if_neg hne,Aap];refine⟨?_,rfl⟩;rw[List.length_append,List.length_append];omega
theorem C1 {a r:List UInt8} (h:validD (a++10::r)=true):validD a=true/\validD r=true:=by
 have h1:=B0 10 (by decide) r _ a Nr h;refine⟨h1,?_⟩;have h2:=Bj _ a (10::r) Nr h1;rw[h] at h2;rw[<- validD_cons 10 r (by decide)];exact h2.symm
def P5:List UInt8:=[32,32,10,32,32,32,35,32,109,111,114,101]
def AX:List UInt8->List UInt8
 | []=>[]
 | c::r=>(if c=10 then P5 else [])++c::AX r
def firstT:List UInt8:=[35,32,102,105,114,115,116,10]
theorem KK:∀ (a r:List UInt8),AX (a++r)=AX a++AX r
 | [],r=>rfl
 | c::a,r=>by rw[List.cons_append,AX,AX,KK a r];simp
theorem JT:∀ {a:List UInt8},10∉a->AX a=a
 | [],_=>rfl
 | c::a,h=>by
  rw[AX,if_neg (fun e=>h (by rw[e];exact List.mem_cons_self ..)),JT (fun e=>h (List.mem_cons_of_mem _ e))];rfl
theorem NU:∀ s:List UInt8,(AX s).length<=13*s.length
 | []=>Nat.le_refl _
 | c::r=>by
  have:=NU r;rw[AX,List.length_append,List.length_cons,List.length_cons];have h:(if c=10 then P5 else ([]:List UInt8)).length<=12:=by split<;>decide
  omega
theorem Sw {r:List UInt8} (hv:validD r=true):Ax (r++[32,32])=Ax r:=by
 have h1:Bd (r++[32,32])=Bd r:=by
  unfold Bd;rw[B6 _ r _ Nr hv,List.all_append,AU _ _ (by decide),AU _ _ (by decide),GQ];have h1:Ac 32=true:=rfl;simp[h1]
 have h2:∀ a b c:UInt8,a≠32->c≠32->b≠32->BZ [a,b,c] (r++[32,32])=BZ [a,b,c] r:=fun a b c ha hc hb=>by
  match r with
  | []=>simp[BZ,Lib.hasPrefix,List.isPrefixOf,ha]
  | [x]=>simp[BZ,Lib.hasPrefix,List.isPrefixOf,hb]
  | [x,y]=>simp[BZ,Lib.hasPrefix,List.isPrefixOf,hc]
  | x::y::z::t=>
   have:((t++[32,32]).isEmpty||(t++[32,32]).getD 0 0==32)=(t.isEmpty||t.getD 0 0==32):=by cases t<;>simp
   simp only[BZ,Lib.hasPrefix,List.cons_append,List.isPrefixOf,List.length_cons,List.length_nil,List.drop_succ_cons,List.drop_zero,this]
 have h3:B7 (r++[32,32])=B7 r:=by unfold B7;rw[h2 _ _ _ (by decide) (by decide) (by decide),h2 _ _ _ (by decide) (by decide) (by decide)]
 unfold Ax;rw[h1,h3]
def MD (x:Sc):Sc:=⟨2*x.kind,x.num,x.str⟩
theorem P3:∀ (n:Nat) (s:List UInt8) (k:Nat) (acc:List Sc),s.length<=n->validD s=true→
  BB (BG (2*k) (Be (AX s))) (acc.map MD)=((BB (BG k (Be s)) acc).1.map MD,2*(BB (BG k (Be s)) acc).2.1,(BB (BG k (Be s)) acc).2.2)
 | n,[],k,acc,_,_=>rfl
 | 0,c::s,k,acc,h,_=>by simp at h
 | n+1,c::s,k,acc,h,hv=>by
  obtain⟨u,hu⟩:∃ u,c::s=u:=⟨_,rfl⟩
  have hune:u≠[]:=by rw[<- hu];simp
  rw[hu] at h hv |-;obtain⟨h1,h2⟩:=CE u;by_cases h10:10∈u
  ·have hs:=h1 h10;have hno:=Iz u;have hlt:=D9 hune;obtain⟨hva,hvr⟩:=C1 (a:=rowOf u) (r:=AS u) (by rw[<- hs];exact hv);have ht:AX u=(rowOf u++[32,32])++10::([32,32,32,35,32,109,111,114,101]++10::AX (AS u)):=by
    conv=>lhs;rw[hs]
    rw[KK,JT hno,AX,if_pos rfl];simp[P5]
   have hr1:Be (AX u)=(rowOf u++[32,32])::[32,32,32,35,32,109,111,114,101]::Be (AX (AS u)):=by
    rw[ht,DM (by simp[hno]),DM (by decide)]
   have hr2:Be u=rowOf u::Be (AS u):=DU hune;rw[hr1,hr2,Ba,Ba,Ba,Bc,Bc (k:=k),Sw hva];by_cases hb:Ax (rowOf u)≠0
   ·rw[if_pos hb,if_pos hb];refine Prod.ext rfl (Prod.ext ?_ rfl);show((2*k:Nat):Int)=2*(k:Int);omega
   ·rw[if_neg hb,if_neg hb];have hsay:AO (rowOf u++[32,32])=AO (rowOf u):=Abm (rowOf u) 2;rw[hsay,Bc,if_neg (show ¬Ax [32,32,32,35,32,109,111,114,101]≠0 from fun h=>h (by kernel_rfl)),show AO [32,32,32,35,32,109,111,114,101]=false by kernel_rfl,show 2*k+1+1=2*(k+1) by omega];have hacc:(if AO (rowOf u)=true then acc.map MD++[AN (2*k) (rowOf u++[32,32])] else acc.map MD)=(if AO (rowOf u)=true then acc++[AN k (rowOf u)] else acc).map MD:=by
     split
     ·rename_i hsy;obtain⟨e1,e2⟩:=YO (r:=rowOf u) (2*k) 2 hsy;rw[List.map_append];congr 1;rw[List.map_singleton];exact congrArg (fun z=>[z]) (Ac4 (x:=AN (2*k) (rowOf u++[32,32])) (y:=MD (AN k (rowOf u))) (by show((2*k:Nat):Int)=2*(k:Int);omega) e1 e2)
     ·rfl
    simp only[Bool.false_eq_true,if_false]
    rw[hacc];exact P3 n (AS u) (k+1) _ (by omega) hvr
  ·obtain⟨h3,h4⟩:=h2 h10;rw[JT h10,FW h10 hune,Ba,Ba,Bc,Bc (k:=k)];split
   ·refine Prod.ext rfl (Prod.ext ?_ rfl);show((2*k:Nat):Int)=2*(k:Int);omega
   ·show(if AO u=true then _ else _,(0:Int),(0:Int))=_;refine Prod.ext ?_ rfl;show(if AO u=true then _ else _)=(if AO u=true then _ else _:List Sc).map MD;split
    ·rw[List.map_append,List.map_singleton];exact congrArg (fun z=>acc.map MD++[z]) (Ac4 (x:=AN (2*k) u) (y:=MD (AN k u)) (by show((2*k:Nat):Int)=2*(k:Int);omega) rfl rfl)
    ·rfl
theorem NF:∀ (n:Nat) (s:List UInt8),s.length<=n->validD (AX s)=validD s
 | n,[],_=>rfl
 | 0,c::s,h=>by simp at h
 | n+1,c::s,h=>by
  obtain⟨u,hu⟩:∃ u,c::s=u:=⟨_,rfl⟩
  have hune:u≠[]:=by rw[<- hu];simp
  rw[hu] at h |-;obtain⟨h1,h2⟩:=CE u;by_cases h10:10∈u
  ·have hs:=h1 h10;have hlt:=D9 hune;have ih:=NF n (AS u) (by omega);have ht:AX u=rowOf u++32::(32::10::32::32::32::35::32::109::111::114::101::10::AX (AS u)):=by
    conv=>lhs;rw[hs]
    rw[KK,JT (Iz u),AX,if_pos rfl];simp[P5]
   have tail:validD (32::32::10::32::32::32::35::32::109::111::114::101::10::AX (AS u))=validD (AX (AS u)):=by
    repeat (rw[validD_cons _ _ (by decide)])
   by_cases ha:validD (rowOf u)=true
   ·rw[ht,Bj _ _ _ Nr ha,tail,ih]
    conv=>rhs;rw[hs]
    rw[Bj _ _ _ Nr ha,validD_cons _ _ (by decide)]
   ·have f1:validD (AX u)=false:=by
     cases hc:validD (AX u) with
     | false=>rfl
     | true=>rw[ht] at hc;exact absurd (B0 32 (by decide) _ _ _ Nr hc) ha
    have f2:validD u=false:=by
     cases hc:validD u with
     | false=>rfl
     | true=>rw[hs] at hc;exact absurd (B0 10 (by decide) _ _ _ Nr hc) ha
    rw[f1,f2]
  ·rw[JT h10]
theorem Abw (l:List Sc):(l.map MD).map BM=(l.map BM).map (reL fun n=>2*n):=by rw[List.map_map,List.map_map];rfl
theorem U5 {s:List UInt8} (h:s.length<=600):Ao (firstT++AX s)=((Ao s).1.map MD,2*(Ao s).2.1,(Ao s).2.2):=by
 have hl:=NU s;have hv:validD (firstT++AX s)=validD s:=by
  unfold firstT;simp only[List.cons_append,List.nil_append]
  repeat (rw[validD_cons _ _ (by decide)])
  exact NF _ s Nr
 have hlen:(firstT++AX s).length=8+(AX s).length:=by rw[List.length_append];rfl
 unfold Ao;rw[if_neg (show ¬8000<(firstT++AX s).length by omega),if_neg (show ¬8000<s.length by omega),hv];split
 ·rename_i hvs;have hr:Be (firstT++AX s)=[35,32,102,105,114,115,116]::Be (AX s):=by
   have:firstT++AX s=[35,32,102,105,114,115,116]++10::AX s:=rfl;rw[this,DM (by decide)]
  rw[hr,Ba,Bc,if_neg (show ¬Ax [35,32,102,105,114,115,116]≠0 from fun h=>h (by kernel_rfl)),show AO [35,32,102,105,114,115,116]=false by kernel_rfl];exact P3 _ s 1 [] Nr hvs
 ·rfl
theorem Ye (chk:Tr->Int->St->Int) (Fz:Nat) {s:List UInt8} (h:s.length<=600):(Aq chk Fz (firstT++AX s)).1=(Aq chk Fz s).1/\(Aq chk Fz (firstT++AX s)).2.2=(Aq chk Fz s).2.2:=by
 have key:(A3 Fz (firstT++AX s)).1=(A3 Fz s).1/\(A3 Fz (firstT++AX s)).2.2=(A3 Fz s).2.2:=by
  unfold A3;rw[U5 h];dsimp only
  split
  ·exact⟨rfl,rfl⟩
  ·rw[Abw];exact Abx _ Fz _
 exact Lh key.1 key.2
end
section
section
variable {P:Program} {n:Nat} {ds:List Deferred} {d:Bool} {ops:Array Oper} {K:Act->Y->Prop} {i:Nat} {pl pend:List Nat} {S:Y->Prop} {l:Env}
 {t:Nat} {ty:TypeId} {ps:String} {af:Array Edge} {gd:Option (Nat×Bool)}
theorem R.byte {x y:Operand} {tt:TypeId} {s:ByteArray} (k:Nat) (c:UInt8) (hc:s.data.toList[k]? =F c) (h:Rj P n ds d ops K pl pend S ((t,.int .u8 c.toNat)::l)) (ho:AQ ops.toList i=F ⟨F t,.index tt x y,ty,ps,af,gd⟩:=by rfl) (hx:ev l x=F (Q s):=by rfl) (hy:ev l y=F (I J (k:Int)):=by rfl) (hu:P.underlying tt=F .string:=by kernel_rfl) (hg:D0 ops.toList l gd=F true:=by rfl):Rj P n ds d ops K (i::pl) pend S l:=
 R.takeP ho hg rfl (by
  rw[if_pos rfl];intro a w ha;have h1:=ha.ev hx;have h2:=ha.ev hy;have hlt:k<s.size:=by have:=(List.getElem?_eq_some_iff.1 hc).1;rw[Lib.size_eq];exact this
  have hb:s.data[k]? =F c:=by rw[<- Array.getElem?_toList];exact hc
  have hr:=run_index_string (P:=P) w tt s .i64 (k:Int) hu;generalize a.eval=ρ at h1 h2 |-;simp[go_sem,h1,h2,hr,hlt];exact congrArg (fun c:UInt8=>(c.toNat:Int)) (show s[k]=c from(Array.getElem?_eq_some_iff.1 hb).2)) h
theorem R.piece {x y z:Operand} {tt:TypeId} {s:ByteArray} (k m:Nat) (hk:k<=m) (hm:m<=s.size) {i2:Int} (h2:i2=(m:Int)) (h:Rj P n ds d ops K pl pend S ((t,Q (s.extract k m))::l)) (ho:AQ ops.toList i=F ⟨F t,.slice tt x (F y) (F z) O,ty,ps,af,gd⟩:=by rfl) (hx:ev l x=F (Q s):=by rfl) (hy:ev l y=F (I J (k:Int)):=by rfl) (hz:ev l z=F (I J i2):=by rfl) (hu:P.underlying tt=F .string:=by kernel_rfl) (hg:D0 ops.toList l gd=F true:=by rfl):Rj P n ds d ops K (i::pl) pend S l:=
 R.takeP ho hg rfl (by
  rw[if_pos rfl];intro a w ha;subst h2;have h1:=ha.ev hx;have h2:=ha.ev hy;have h3:=ha.ev hz;have hr:=run_slice_string (P:=P) w tt s .i64 .i64 (k:Int) (m:Int) hu;generalize a.eval=ρ at h1 h2 h3 |-;simp[go_sem,h1,h2,h3,hr,hk,hm,run_sliceAt_string w tt _ _ _ _ hu]) h
end
end
section
theorem H3 (s:ByteArray) (w:Y):Calls Tryz.prog 12 #[Q s] w fun e w'=>e=.returned (Q (s.extract 0 (min s.size 600)))/\Below w.heap.size w w':=by
 refine V.enter _ Tryz.func12 (Mem.start (C:=A5) w) ?_
 repeat refine W ?_
 have hk:min s.size 600<=s.size:=Nat.min_le_left ..;first | refine R.re 6 (v:=I J (if 600<(s.size:Int) then 600 else (s.size:Int))) (v':=I J ((min s.size 600:Nat):Int)) (by congr 1;split<;>omega) ?_ | refine R.re 6 (v:=I J (min (s.size:Int) 600)) (v':=I J ((min s.size 600:Nat):Int)) (by congr 1;omega) ?_
 generalize min s.size 600=k at hk |-;refine W ?_ (by
  refine R.p (v:=Q (s.extract 0 k)) (hv:=?_);intro ρ w h;simp only[Op.operands,GD,List.map_cons,List.map_nil,Array.toList_append,List.toList_toArray,List.nil_append,List.cons_append] at h;have h6:ρ (.tmp 6)=I J k:=h.2.1;have h3:=h.1;have:=run_slice_string_to_if (P:=Tryz.prog) w 9 s .i64 (k:Int) Tryz.underlying9;simp[go_sem,h3,h6,this,hk])
 repeat refine W ?_
 refine V.end fun w' h'=>?_;exact⟨rfl,h'.1.below⟩
end
section
structure T9 (M M2:Nat) (x:Nd):Prop where
 keys:x.keys.length<=M
 kids:x.kids.length<=M
 str:x.x.str.size<=M2/\∀ y∈x.keys,y.str.size<=M2
theorem Qj {M M2:Nat} {s:St} {a:Nat} {v:Int} (h:∀ x∈s.nodes,T9 M M2 x) (ha:∀ x,s.nodes[a]? =F x->x.kids.length+1<=M):∀ x∈(s.kid a v).nodes,T9 M M2 x:=by
 intro x hx;obtain⟨i,hi⟩:=List.mem_iff_getElem?.1 hx;rw[CW] at hi;split at hi
 ·rename_i e;subst e;cases hs:s.nodes[i]? with
  | none=>rw[hs] at hi;cases hi
  | some y=>
   rw[hs] at hi;cases hi
   have hy:=h y (List.mem_of_getElem? hs);exact⟨hy.keys,by have:=ha y hs;rw[List.length_append];exact this,hy.str⟩
 ·exact h x (List.mem_of_getElem? hi)
mutual
theorem Nc (chk:Tr->Int->St->Int) {M M2:Nat}:∀ (t:Tr) (deep:Int) (s:St),Sm M t->Fo M2 t->(∀ x∈s.nodes,T9 M M2 x)->∀ x∈(BO chk deep t s).1.nodes,T9 M M2 x
 | .mk k nm x ks ts,deep,s,h1,h2,h=>by
  unfold Sm at h1;unfold Fo at h2;unfold BO;split
  ·split
   ·exact h
   ·have hn:∀ y∈(s.node k nm x ks).nodes,T9 M M2 y:=fun y hy=>by
     rcases List.mem_append.1 (show y∈s.nodes++[⟨k,x,ks,[]⟩] from hy) with hy | hy
     ·exact h y hy
     ·rw[List.mem_singleton.1 hy];exact⟨h1.1,Nat.zero_le _,h2.2.1,h2.2.2.1⟩
    have hg:(s.node k nm x ks).nodes[s.nodes.length]? =F ⟨k,x,ks,[]⟩:=by show(s.nodes++[_])[_]? =_;rw[List.getElem?_append_right Nr,Nat.sub_self];rfl
    have:=ND chk ts deep s.nodes.length (s.node k nm x ks) h1.2.2 h2.2.2.2 hn (fun y hy=>by rw[hg] at hy;cases hy;simpa using h1.2.1) (by show _<(s.nodes++[_]).length;simp);dsimp only
    split<;>exact this
  ·exact h
theorem ND (chk:Tr->Int->St->Int) {M M2:Nat}:∀ (ts:List Tr) (deep:Int) (a:Nat) (s:St),Sm.SmTs M ts->Fo.SzTs M2 ts->(∀ x∈s.nodes,T9 M M2 x)->(∀ x,s.nodes[a]? =F x->x.kids.length+ts.length<=M)->a<s.nodes.length->∀ x∈(D3 chk deep a ts s).1.nodes,T9 M M2 x
 | [],deep,a,s,_,_,h,_,_=>by unfold D3;exact h
 | t::r,deep,a,s,h1,h2,h,ha,hlt=>by
  unfold Sm.SmTs at h1;unfold Fo.SzTs at h2;have hq:=Nc chk t (deep+1) s h1.1 h2.1 h;obtain⟨k1,k2⟩:=FH chk t (deep+1) s;have ha2:∀ x,(BO chk (deep+1) t s).1.nodes[a]? =F x->x.kids.length+1<=M:=fun x hx=>by
   rw[k2 a hlt] at hx;have:=ha x hx;rw[List.length_cons] at this;omega
  have hk:=fun v=>Qj (v:=v) hq ha2;unfold D3;dsimp only
  split
  ·refine ND chk r deep a _ h1.2 h2.2 (hk _) (fun x hx=>?_) (by rw[BS];omega);rw[CW,if_pos rfl,k2 a hlt] at hx;cases hs:s.nodes[a]? with
   | none=>rw[hs] at hx;cases hx
   | some y=>
    rw[hs] at hx;cases hx
    have:=ha y hs;simp only[List.length_cons] at this;rw[List.length_append,List.length_singleton];omega
  ·exact hk _
end
theorem M6 (s:List UInt8):∀ x∈(Aq AD 100000 s).1.nodes,T9 25000 40000 x:=by
 unfold Aq;split
 ·exact fun x hx=>by cases hx
 ·show ∀ x∈(Al AD (A3 100000 s).1).1.nodes,_;unfold Al;split
  ·have hs:Sm 25000 (A3 100000 s).1/\Fo 40000 (A3 100000 s).1:=by
    unfold A3;split
    ·exact⟨G4 _,G7 _⟩
    ·exact⟨Q8 fun es he=>by have:=FX es he;omega,Qu 100000 s⟩
   exact Nc AD _ 1 ⟨[],[]⟩ hs.1 hs.2 (fun x hx=>by cases hx)
  ·exact fun x hx=>by cases hx
end
section
theorem baL (l:List UInt8):(⟨l.toArray⟩:ByteArray).size=l.length:=by rw[Lib.size_eq]
theorem baC (l m:List UInt8):(⟨l.toArray⟩:ByteArray)++⟨m.toArray⟩=⟨(l++m).toArray⟩:=by
 apply ByteArray.ext;rw[ByteArray.data_append];simp
theorem baE (s:ByteArray) (k:Nat) (c:UInt8) (h:s.data.toList[k]? =F c):s.extract k (k+1)=⟨[c].toArray⟩:=by
 have hlt:=(List.getElem?_eq_some_iff.1 h).1;apply ByteArray.ext;apply Array.ext';rw[ByteArray.data_extract,Array.toList_extract];simp only[List.extract_eq_take_drop]
 rw[List.drop_eq_getElem_cons hlt];rw[List.getElem?_eq_getElem hlt] at h;cases h
 simp
theorem Rm (s:List UInt8):(Aq AD 100000 s).1=G8\/NO A4 (Aq AD 100000 s).1:=by
 unfold Aq;split
 ·exact .inl rfl
 ·by_cases h:(Al AD (A3 100000 s).1).2=0
  ·exact .inr (GB h)
  ·exact .inl (Ed h)
theorem Qs (s:List UInt8):SmN (Aq AD 100000 s).1.nodes:=by
 refine⟨?_,fun x hx=>?_⟩
 ·rcases Rm s with h | h
  ·rw[h];exact Nat.zero_le _
  ·have:=h.len;omega
 ·have:=M6 s x hx;have:=this.keys;have:=(M6 s x hx).kids;omega
theorem Aju {c d:UInt8} (h:c≠d):((c.toNat:Int)==(d.toNat:Int))=false:=by
 have:c.toNat≠d.toNat:=fun e=>h (UInt8.toNat_inj.1 e);simp;omega
theorem Aed (l:List UInt8) (k:Nat) (c:UInt8) (h:l[k]? =F c):AX (l.take (k+1))=AX (l.take k)++((if c=10 then P5 else [])++[c]):=by
 rw[List.take_add_one,h,KK];rfl
theorem Adu (s:ByteArray) (w:Y) (hW:FP w):Calls Tryz.prog 3 #[Q s] w fun e w'=>e=.returned (.bool true)/\Below w.heap.size w w':=by
 obtain⟨S,hS⟩:∃ S,s.extract 0 (min s.size 600)=S:=⟨_,rfl⟩
 have hSs:S.size<=600:=by rw[<- hS,ByteArray.size_extract];omega
 obtain⟨l,hl⟩:∃ l,S.data.toList=l:=⟨_,rfl⟩
 have hll:l.length<=600:=by rw[<- hl,<- Lib.size_eq];exact hSs
 have hSl:S.size=l.length:=by rw[<- hl,Lib.size_eq]
 have hlaw:=Ye AD 100000 hll;have hq:=Qs l;have hL1:=fun w' (h:FP w')=>C2 S w' h;have hL2:=fun w' (h:FP w')=>C2 ⟨(firstT++AX l).toArray⟩ w' h;rw[hl] at hL1;rw[show(⟨(firstT++AX l).toArray⟩:ByteArray).data.toList=firstT++AX l from rfl] at hL2;obtain⟨⟨g,n1,e1⟩,h1⟩:∃ x,Aq AD 100000 l=x:=⟨_,rfl⟩
 obtain⟨⟨g2,n2,e2⟩,h2⟩:∃ x,Aq AD 100000 (firstT++AX l)=x:=⟨_,rfl⟩
 rw[h1,h2] at hlaw;rw[h1] at hq hL1;rw[h2] at hL2;obtain⟨rfl,rfl⟩:g2=g/\e2=e1:=hlaw;clear h1 h2;refine V.enter _ Tryz.func3 (Mem.start (C:=A5) w) ?_
 repeat refine W ?_
 refine R.c (fun w' h'=>DY w' (hW.to h'.1.below)) ?_
 repeat refine W ?_
 refine R.c (fun w' h'=>H3 s w') ?_;rw[hS]
 repeat refine W ?_
 refine V.loop (ι:=Nat) (fun k=>k<=l.length) (fun _=>Mem A5 w []) (fun k=>[(4,Q ⟨(firstT++AX (l.take k)).toArray⟩),(5,I J k),(0,Q S),(3,.bool true)]) (fun k=>l.length - k) 0 (Nat.zero_le _) (fun w h=>h) ⟨rfl,rfl,rfl,rfl,trivial⟩ ?_;intro k hk;have hdl:=NU (l.take k);have hdt:(l.take k).length<=600:=by rw[List.length_take];omega
 have hfl:firstT.length=8:=rfl;have hbl:=baL (firstT++AX (l.take k));rw[List.length_append] at hbl
 repeat refine W ?_
 rw[hSl];refine V.ifp (fun hlt=>?_) (fun hge=>?_)
 ·have hlt2:k<l.length:=by omega
  obtain⟨c,hc⟩:∃ c,l[k]? =F c:=⟨_,List.getElem?_eq_getElem hlt2⟩
  have hcS:S.data.toList[k]? =F c:=by rw[hl];exact hc
  have hda:=Aed l k c hc;have hpc:=baE S k c hcS
  repeat refine W ?_
  refine R.byte k c hcS ?_;by_cases h10:c=10
  ·subst h10;rw[if_pos rfl] at hda
   repeat refine W ?_
   refine R.cat ⟨(firstT++AX (l.take k)).toArray⟩ ⟨#[32,32,10,32,32,32,35,32,109,111,114,101]⟩ (by show _+12<=_;omega) ?_
   repeat refine W ?_
   refine R.piece (s:=S) k (k+1) (by omega) (by omega) (i2:=(k:Int)+1) (by omega) ?_;rw[hpc];refine R.cat (⟨(firstT++AX (l.take k)).toArray⟩++⟨#[32,32,10,32,32,32,35,32,109,111,114,101]⟩) ⟨[10].toArray⟩ (by rw[ByteArray.size_append];show _+12+1<=_;omega) ?_
   repeat refine W ?_
   refine V.re 4 (v:=Q (⟨(firstT++AX (l.take k)).toArray⟩++⟨#[32,32,10,32,32,32,35,32,109,111,114,101]⟩++⟨[10].toArray⟩)) (v':=Q ⟨(firstT++AX (l.take (k+1))).toArray⟩) (by rw[hda,show(⟨#[32,32,10,32,32,32,35,32,109,111,114,101]⟩:ByteArray)=⟨P5.toArray⟩ from rfl,baC,baC,List.append_assoc,List.append_assoc]) ?_;refine V.again (k+1)
  ·rw[if_neg h10,List.nil_append] at hda
   repeat refine W ?_
   refine V.re 24 (v:=.bool ((c.toNat:Int)==10)) (v':=.bool false) (congrArg Value.bool (Aju h10)) ?_
   repeat refine W ?_
   refine R.piece (s:=S) k (k+1) (by omega) (by omega) (i2:=(k:Int)+1) (by omega) ?_;rw[hpc];refine R.cat ⟨(firstT++AX (l.take k)).toArray⟩ ⟨[c].toArray⟩ (by show _+1<=_;omega) ?_
   repeat refine W ?_
   refine V.re 4 (v:=Q (⟨(firstT++AX (l.take k)).toArray⟩++⟨[c].toArray⟩)) (v':=Q ⟨(firstT++AX (l.take (k+1))).toArray⟩) (by rw[hda,baC,List.append_assoc]) ?_;refine V.again (k+1)
 ·have hkl:k=l.length:=by omega
  subst hkl;rw[List.take_length]
  repeat refine W ?_
  refine R.cf (fun w' h'=>hL1 w' (hW.to h'.1.below)) (fun q=>?_)
  repeat (first | refine W ?_ | refine R.new fun _ _=>?_)
  refine R.cf (fun w' h'=>hL2 w' (hW.to h'.1.below)) (fun q2=>?_)
  repeat (first | refine W ?_ | refine R.new fun _ _=>?_)
  refine R.c (v:=.bool true) (fun w' h'=>?_) ?_
  ·obtain⟨Fz,⟨A,c,ea,hn⟩,_⟩:=h'.has (X:=KZ (Fx q.1 q.2 g2) g2) (by simp);obtain⟨F2,⟨A2,c2,ea2,hn2⟩,_⟩:=h'.has (X:=KZ (Fx q2.1 q2.2 g2) g2) (by simp);obtain⟨rfl,rfl⟩:=DP ea;obtain⟨rfl,rfl⟩:=DP ea2;exact(DQ Fz F2 q.1 q2.1 q.2 q2.2 _ _ w' hn hn2 hq).mono fun e w2 ⟨he,hb⟩=>⟨by rw[he,decide_eq_true rfl],hb⟩
  repeat refine W ?_
  refine V.end fun w' h'=>?_;exact⟨rfl,h'.1.below⟩
end
end Go.Proofs.YtdpppepmkeinaaaGreatDoor
