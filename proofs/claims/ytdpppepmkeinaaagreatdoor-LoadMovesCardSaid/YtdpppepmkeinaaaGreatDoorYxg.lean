/- What is proved: a part of the walk of the program and of its plain laws; no condition beside those that each theorem names. -/
import Derived.Test.YtdpppepmkeinaaaGreatDoorYxf
import Derived.Test.YtdpppepmkeinaaaGreatDoorYa
namespace Go.Proofs.YtdpppepmkeinaaaGreatDoor
open Go Go.RowKit Go.Lib
open Go.Value renaming int->I,string->Q,slice->Z
open Go.IntKind renaming i64->J
open Option renaming none->O,some->F
open _root_.Go renaming World->Y
set_option linter.unusedSimpArgs false
set_option linter.unusedVariables false
set_option linter.unusedSectionVars false
section
set_option maxHeartbeats 32000000
set_option maxRecDepth 100000
theorem Hu.from {w:Y} {S:Nat->Prop} {b o k:Nat} {A':Option Addr} {l:List C8} (h:Hu w S (F ⟨b,o,O⟩) l) (hA:k<l.length->A'=F ⟨b,o+k*3,O⟩):Hu w S A' (l.drop k):=fun j t hj=>by
 rw[List.getElem?_drop] at hj;have hlt:=(List.getElem?_eq_some_iff.1 hj).1;obtain⟨b',o',e,hb,hc⟩:=h _ t hj;cases e
 exact⟨b,o+k*3,hA (by omega),hb,by rwa [show o+k*3+j*3=o+(k+j)*3 by omega]⟩
theorem GdN.next {x:En} (h:GdN x) (h2:2<=x.l.length):GdN (FO x):=by
 obtain⟨no,col,l⟩:=x
 match l,h2 with
 | a::c::r,_=>
  refine⟨by simp[FO],?_,?_,fun t ht=>h.pl t (by simp[FO] at ht |-;exact .inr ht)⟩
  ·have:=h.lo;simp[FO] at this |-;omega
  ·have:=h.hi;simp[FO] at this |-;omega
section
variable {Wo:I7} {n:Nat}
theorem Yg (hn1:n<=1000000) (hB0:Uo Wo n) (hN:Yk Wo n) (x:D8) (r:List D8) (d:Nat) (hes:H2 Wo (x::r)) (hd:d<=1000) (hn:4*E4 (Bv (x::r))<=n+1):
  BkC Wo (x::r) 191 [epV x,I J d] (B2 (n+1) d x.1 (Bv r)):=by
 intro rb w hB Fz hX hF hQ;have hle:=G6 (x.1::Bv r);rw[List.length_cons,List.length_map] at hle;have hn:4*E4 (x.1::Bv r)<=n+1:=hn;have hlen:(x::r).length<=1000000:=by rw[List.length_cons];omega
 have hx:=hes x (List.mem_cons_self ..);obtain⟨⟨no,cl,l⟩,A,c⟩:=x;have hcap:l.length<=c:=hx.cap;rw[AG] at hn;dsimp only at hn;refine V.enter _ Tryz.func191 (Mem.startX hX hF) ?_;refine W ?_;refine R.new fun b4 h4=>?_
 repeat (first | refine W ?_ | refine R.new fun _ _=>?_)
 match l,hx with
 | [],hx=>exact absurd rfl hx.g.ne
 | [t0],hx=>
  have hC:=hB0 no cl cl A 1 c d r hes.tl hd (by simp at hn;omega) rb;rw[show B2 (n+1) d ⟨no,cl,[t0]⟩ (Bv r)=belowB n no cl d (Bv r) by rw[B2];rfl]
  repeat refine W ?_
  refine R.cq (fun w' h'=>KC rb _ r w' hlen) (fun G hG=>trivial) (fun _=>?_)
  repeat refine W ?_
  refine R.cq (fun w' h'=>hC w' (hB.ext hQ h'.1)) (fun G hG=>hB.of hQ G hG) (fun y=>?_)
  repeat refine W ?_
  refine V.eA fun w' h'=>?_;exact⟨y,rfl,Mem.toW h'.sel⟩
 | t0::t1::l',hx=>
  obtain⟨b,o,rfl,hb,hc0⟩:=hx.tks 0 t0 rfl;obtain⟨_,_,e,_,hc1⟩:=hx.tks 1 t1 rfl;cases e
  have k0:Cs w b (o+0*3) (Eo t0):=hB.cs hc0 hb;have k1:Cs w b (o+1*3) (Eo t1):=hB.cs hc1 hb;have hnF:¬Fz b:=hb.not hQ;have hlo: -10000000<=cl - t0.at_:=hx.g.lo;have hhi:cl - t0.at_<=10000000:=hx.g.hi;have hp0:=hx.g.pl t0 (by simp);have hp1:=hx.g.pl t1 (by simp);obtain⟨y,hy⟩:∃ y:D8,y=(FO ⟨no,cl,t0::t1::l'⟩,F ⟨b,o+1*3,O⟩,c - 1):=⟨_,rfl⟩
  have hyP:EpP Wo y:=by
   subst hy;exact⟨hx.tks.from (k:=1) (A':=F ⟨b,o+1*3,O⟩) (fun _=>rfl),by have:=hx.len;show l'.length+1<=_;simp at this;omega,fun t ht=>hx.small t (List.mem_cons_of_mem _ ht),by show l'.length+1<=c - 1;simp at hcap;omega,hx.g.next (by simp)⟩
  have hC:=hN cl d (y::r) (fun z hz=>(List.mem_cons.1 hz).elim (fun e=>by rw[e];exact hyP) (fun h=>hes.tl z h)) (by simp) hd (by show 4*E4 (y.1::Bv r)+2<=n;rw[AG];subst hy;simp[FO] at hn |-;omega) rb;rw[show B2 (n+1) d ⟨no,cl,t0::t1::l'⟩ (Bv r)=AF n cl d (Bv (y::r)) by rw[B2];subst hy;exact if_neg (by simp)];refine V.re 11 (v:=.bool (((t0::t1::l').length:Int)==1)) (v':=.bool false) (by simp;omega) ?_;iterate 2 refine W ?_
  refine Zz.on (Mem Fz w [blk b4 (enC no cl (F ⟨b,o,O⟩) (t0::t1::l').length c) 219]) ?_
  repeat refine Wy ?_
  refine Zz.ix (k:=1) (show 1<(t0::t1::l').length by simp) ?_
  repeat refine Wy ?_
  refine Zz.lo 2 k1 ?_ hnF
  repeat refine Wy ?_
  refine Zz.ix (k:=0) (show 0<(t0::t1::l').length by simp) ?_
  repeat refine Wy ?_
  refine Zz.lo 2 k0 ?_ hnF
  repeat refine Wy ?_
  refine Zz.sl (k:=1) (sz:=3) (by simp) hcap (fun A' hA'=>?_);obtain rfl:=hA' (by simp);iterate 1 refine Wy ?_
  refine Zz.do (hd:=by exact D.cq (fun w' h'=>Agn rb _ y r w' hlen) (fun G hG=>trivial) (he:=by subst hy;rfl)) (h:=fun _=>?_);refine Zz.off (fun w' h'=>h'.sel) ?_
  repeat refine W ?_
  refine R.cq (fun w' h'=>hC w' (hB.ext hQ h'.1)) (fun G hG=>hB.of hQ G hG) (fun y=>?_)
  repeat refine W ?_
  refine V.eA fun w' h'=>?_;exact⟨y,rfl,Mem.toW h'.sel⟩
def prR (n d:Nat) (x:En) (r:List En):BR:=if (EA x.l).2≠0 then .bad x.no (EA x.l).2 else B8 n d x r
abbrev scB (b:Nat) (x:Sc):Aw:=blk b (Fl x) 36
theorem Y1 (hn1:n<=1000000) (hB0:Uo Wo n) (x:D8) (r:List D8) (d:Nat) (hes:H2 Wo (x::r)) (hd:d<=1000) (hn:4*E4 (Bv (x::r))<=n+1) (hkey:Ck x.1.l=.key) (rb:Nat) (w:Y) (hB:Ll Wo w):
  Dm Tryz.prog 194 #[.pointer (F ⟨rb,0,O⟩),epV x,I J d] w (E3 rb (x::r)) (BnW Wo) (fun y:TY×List D8=>.tuple #[Ev (EA x.1.l).1,.agg (AM y.1).toArray,Zr (prR (n+1) d x.1 (Bv r))]) (Uq Wo rb (prR (n+1) d x.1 (Bv r))):=by
 intro Fz hX hF hQ;have hle:=G6 (x.1::Bv r);rw[List.length_cons,List.length_map] at hle;have hn:4*E4 (x.1::Bv r)<=n+1:=hn;have hlen:(x::r).length<=1000000:=by rw[List.length_cons];omega
 have hrl:r.length<=1000000:=by rw[List.length_cons] at hlen;omega
 have hx:=hes x (List.mem_cons_self ..);have h2:=Af5 hkey;obtain⟨⟨no,cl,l⟩,A,c⟩:=x;have hcap:l.length<=c:=hx.cap;rw[AG] at hn;dsimp only at hn h2
 match l,hx,h2 with
 | t0::t1::l',hx,_=>
  obtain⟨b,o,rfl,hb,hc0⟩:=hx.tks 0 t0 rfl;have k0:Cs w b (o+0*3) (Eo t0):=hB.cs hc0 hb;have hnF:¬Fz b:=hb.not hQ;have hts:=hx.small t0 (by simp);have hkf:=fun w' (h:Ll Wo w')=>Pt t0 w' hts h.tabs;have hfrom:=fun(A':Option Addr) hA=>hx.tks.from (k:=2) (A':=A') hA;rw[show(t0::t1::l').drop 2=l' from rfl] at hfrom;have hne:=hn;rw[show EA (En.l (Prod.fst ((⟨no,cl,t0::t1::l'⟩,F ⟨b,o,O⟩,c):D8)))=B3 (Fm t0) from rfl];have hres:prR (n+1) d ⟨no,cl,t0::t1::l'⟩ (Bv r)=if (B3 (Fm t0)).2≠0 then .bad no (B3 (Fm t0)).2 else B8 (n+1) d ⟨no,cl,t0::t1::l'⟩ (Bv r):=rfl
  dsimp only
  rw[hres];obtain⟨⟨ks,ke⟩,hkr⟩:∃ z,B3 (Fm t0)=z:=⟨_,rfl⟩
  rw[hkr] at hkf |-;clear hkr hres;have hl:E4 (Bv r)+(l'.length+2)+1=(t0::t1::l').length+1+E4 (Bv r):=by simp;omega
  have hfu:4*E4 (Bv r)+3<=n:=by omega
  have hpB:B8 (n+1) d ⟨no,cl,t0::t1::l'⟩ (Bv r)=match Ck l' with | .name s=>G9 no s (belowB n no cl d (Bv r)) | _=>if l'.length+1+1=2 then belowB n no cl d (Bv r) else C9 no l' d (Bv r):=by rw[B8];rfl
  have hbg:=fun(A':Option Addr) hA w' (h:Ll Wo w')=>Ip (PcO Wo) no cl A' (c - 2) l' w' ((hfrom A' hA).to fun b o v hb hv=>⟨h.cell hv hb.2,hb⟩);rw[hpB];obtain⟨g,hg⟩:∃ g,Ck l'=g:=⟨_,rfl⟩
  rw[hg] at hbg |-;refine V.enter _ Tryz.func194 (Mem.startX hX hF) ?_;refine W ?_;refine R.new fun b4 h4=>?_;refine R.new fun b6 h6=>?_;refine R.new fun b7 h7=>?_
  repeat refine W ?_
  refine R.cq (fun w' h'=>KC rb _ r w' hlen) (fun G hG=>trivial) (fun _=>?_)
  repeat (first | refine W ?_ | refine R.new fun _ _=>?_)
  refine R.ix (k:=0) (show 0<(t0::t1::l').length by simp) ?_;refine R.lo (m:=3) 0 k0 ?_ hnF;refine R.c (fun w' h'=>hkf w' (hB.ext hQ h'.1)) ?_;iterate 3 refine W ?_
  refine R.new fun b9 h9=>?_
  repeat refine W ?_
  by_cases he:ke=0
  ·rw[if_neg (fun h=>h he)];refine V.re 29 (v:=.bool (ke !=0)) (v':=.bool false) (by simp[he]) ?_;iterate 2 refine W ?_
   refine Zz.on (Mem Fz w [blk b4 (enC no cl (F ⟨b,o,O⟩) (t0::t1::l').length c) 219]) ?_
   repeat refine Wy ?_
   refine Zz.sl (k:=2) (sz:=3) (show 2<=(t0::t1::l').length by simp) hcap (fun A' hA'=>?_);refine Wy ?_;refine Zz.new fun b11 h11=>?_;iterate 1 refine Wy ?_
   refine Zz.off (fun w' h'=>h'.sel) ?_;iterate 2 refine W ?_
   refine R.new fun b12 h12=>?_
   repeat refine W ?_
   refine R.c (fun w' h'=>hbg A' hA' w' (hB.ext hQ h'.1)) ?_;cases g with
   | name s=>
    repeat (first | refine W ?_ | refine R.new fun _ _=>?_)
    refine R.cq (fun w' h'=>Oe hn1 hB0 no cl cl (F ⟨b,o,O⟩) (t0::t1::l').length c d s r hes.tl hd hfu rb w' (hB.ext hQ h'.1)) (fun G hG=>hB.of hQ G hG) (fun y=>?_);iterate 7 refine W ?_
    refine Zz.on (Mem Fz w [scB b9 ks,blk b12 (AM y.1) 53]) ?_;iterate 6 refine Wy ?_
    refine Zz.off (fun w' h'=>h'.sel) ?_;refine W ?_;refine V.eA (fun w' h'=>?_) (hr:=.agg rfl (by(repeat (first | exact List.Mem.head _ | apply List.Mem.tail))) (by intro w;kernel_rfl) (by intro w;simp;try rfl) (.tmp rfl .nil));exact⟨y,rfl,Mem.toW h'.sel⟩
   | _=>
    dsimp only
    repeat (first | refine W ?_ | refine R.new fun _ _=>?_)
    by_cases hl0:l'=[]
    ·subst hl0;rw[if_pos (show([]:List C8).length+1+1=2 from rfl)]
     repeat refine W ?_
     refine R.cq (fun w' h'=>hB0 no cl cl (F ⟨b,o,O⟩) [t0,t1].length c d r hes.tl hd hfu rb w' (hB.ext hQ h'.1)) (fun G hG=>hB.of hQ G hG) (fun y=>?_);iterate 7 refine W ?_
     refine Zz.on (Mem Fz w [scB b9 ks,blk b12 (AM y.1) 53]) ?_;iterate 6 refine Wy ?_
     refine Zz.off (fun w' h'=>h'.sel) ?_;refine W ?_;refine V.eA (fun w' h'=>?_) (hr:=.agg rfl (by(repeat (first | exact List.Mem.head _ | apply List.Mem.tail))) (by intro w;kernel_rfl) (by intro w;simp;try rfl) (.tmp rfl .nil));exact⟨y,rfl,Mem.toW h'.sel⟩
    ·have hl1:=List.length_pos_iff.2 hl0;rw[if_neg (by omega)];refine V.re 48 (v:=.bool ((l'.length:Int)==0)) (v':=.bool false) (by simp;omega) ?_
     repeat refine W ?_
     refine R.cq (fun w' h'=>MI no cl (F ⟨b,o,O⟩) (t0::t1::l').length c l' A' (c - 2) d r hes.tl (hfrom A' hA') (by have:=hx.len;simp at this;omega) (fun t ht=>hx.small t (List.mem_cons_of_mem _ (List.mem_cons_of_mem _ ht))) (by simp at hcap;omega) hd hrl rb w' (hB.ext hQ h'.1)) (fun G hG=>hB.of hQ G hG) (fun y=>?_);iterate 7 refine W ?_
     refine Zz.on (Mem Fz w [scB b9 ks,blk b12 (AM y.1) 53]) ?_;iterate 6 refine Wy ?_
     refine Zz.off (fun w' h'=>h'.sel) ?_;refine W ?_;refine V.eA (fun w' h'=>?_) (hr:=.agg rfl (by(repeat (first | exact List.Mem.head _ | apply List.Mem.tail))) (by intro w;kernel_rfl) (by intro w;simp;try rfl) (.tmp rfl .nil));exact⟨y,rfl,Mem.toW h'.sel⟩
  ·rw[if_pos he];refine V.re 29 (v:=.bool (ke !=0)) (v':=.bool true) (by simp[he]) ?_;iterate 2 refine W ?_
   refine Zz.on (Mem Fz w [scB b9 ks,blk b4 (enC no cl (F ⟨b,o,O⟩) (t0::t1::l').length c) 219]) ?_
   repeat refine Wy ?_
   refine Zz.c (fun w' h'=>Cb no cl (F ⟨b,o,O⟩) (t0::t1::l').length c ke w') ?_;iterate 3 refine Wy ?_
   refine Zz.off (fun w' h'=>h'.sel) ?_;refine W ?_;refine V.eA (fun w' h'=>?_) (hr:=.agg rfl (by(repeat (first | exact List.Mem.head _ | apply List.Mem.tail))) (by intro w;kernel_rfl) (by intro w;simp;try rfl) (.tmp rfl .nil));exact⟨(GE AJ,r),rfl,EP (Wo:=Wo) (no:=no) (e:=ke) h'.sel hrl⟩
end
end
section
set_option maxRecDepth 100000
structure Ain (col:Int) (bg:Bg) (stp:Nat->En->List En->BR) (R:Nat->List En->List Ig->BR) (fin:List Ig->Tr):Prop where
 e:∀ m xs,R (m+1) [] xs=.ok (fin xs) []
 x:∀ m x r xs,¬(x.col=col/\Ck x.l=bg)->R (m+1) (x::r) xs=Dz col (fin xs) x r
 b:∀ m x r xs no e,x.col=col->Ck x.l=bg->stp m x r=.bad no e->R (m+1) (x::r) xs=.bad no e
 o:∀ m x r xs (z:Ig) t rest,x.col=col->Ck x.l=bg->z.1.1=x->z.2.2=stp m x r->z.2.2=.ok t rest->R (m+1) (x::r) xs=R m rest (xs++[z])
 mu:∀ m x r t rest,stp m x r=.ok t rest->rest<:+r
def Jj (x:Ig):Tr:=match x.2.2 with
 | .ok t _=>t
 | _=>Ei
abbrev Ys (stp:Nat->En->List En->BR) (n i:Nat) (x:En) (r:List En):BR:=stp (n - i - 1) x r
section
variable {Wo:I7} {es0:List En} {col:Int} {bg:Bg} {stp:Nat->En->List En->BR} {R:Nat->List En->List Ig->BR} {fin:List Ig->Tr} (hR:Ain col bg stp R fin) {n:Nat} (hn:4*E4 es0+1<=n)
include hR hn
theorem Zw.told {xs:List Ig} (h:Zw Wo es0 col bg (Ys stp n) xs):4*E4 (Ey es0 xs)+1+xs.length<=n/\R n es0 []=R (n - xs.length) (Ey es0 xs) xs:=by
 induction h with
 | nil=>exact⟨hn,rfl⟩
 | snoc pre x h ha ho ih=>
  obtain⟨t,rest,ho⟩:=ho;obtain⟨y,r,rs⟩:=x;dsimp only at ho;subst ho;obtain⟨h1,h2⟩:=ih;rw[ha.at_] at h1 h2;rw[Nu,h2];rw[AG] at h1;have hm:=Hc (hR.mu _ _ _ t rest ha.st.symm);rw[List.length_append,List.length_singleton];dsimp only at h1 hm |-;refine⟨by omega,?_⟩;rw[show n - pre.length=(n - pre.length - 1)+1 by omega,hR.o _ _ _ _ (y,r,.ok t rest) t rest ha.col ha.bg rfl ha.st rfl,show n - (pre.length+1)=n - pre.length - 1 by omega]
theorem Zw.bad {pre:List Ig} {x:Ig} {no e:Int} (h:Zw Wo es0 col bg (Ys stp n) pre) (ha:BAd Wo es0 col bg (Ys stp n) pre x) (hx:x.2.2=.bad no e):R n es0 []=.bad no e:=by
 obtain⟨h1,h2⟩:=h.told hR hn;rw[ha.at_] at h1 h2;rw[h2,show n - pre.length=(n - pre.length - 1)+1 by omega];exact hR.b _ _ _ _ no e ha.col ha.bg (by rw[<- hx];exact ha.st.symm)
theorem Agd.told {xs:List Ig} (h:Agd Wo es0 col bg (Ys stp n) xs):R n es0 []=match Ey es0 xs with | []=>.ok (fin xs) [] | x::r=>Dz col (fin xs) x r:=by
 obtain⟨hc,hf⟩:=h;obtain⟨h1,h2⟩:=hc.told hR hn;rw[h2];obtain⟨l,hl⟩:∃ l,Ey es0 xs=l:=⟨_,rfl⟩
 rw[hl] at hf h1 |-;rw[show n - xs.length=(n - xs.length - 1)+1 by omega];cases l with
 | nil=>exact hR.e _ _
 | cons x r=>exact hR.x _ _ _ _ (hf x r rfl)
end
theorem Ak3 (col:Int) (d:Nat):Ain col .dash (fun m x r=>B2 m (d+1) x r) (fun m l xs=>BK m col d l (xs.map Jj)) (fun xs=>Bt (xs.map Jj)) where
 e m xs:=by rw[BK]
 x m x r xs h:=by rw[BK];exact if_neg h
 b m x r xs no e h1 h2 h:=by rw[BK,if_pos ⟨h1,h2⟩,h];rfl
 o m x r xs z t rest h1 h2 h3 h4 h5:=by
  rw[BK,if_pos ⟨h1,h2⟩,<- h4,h5,List.map_append,List.map_singleton,show Jj z=t by unfold Jj;rw[h5]];rfl
 mu m x r t rest h:=(suffix m).2.2.1 _ _ _ _ _ h
abbrev Ut (b:Nat):Aw:=blk b [I J 0,Q ⟨#[]⟩,I J 0,I J 0,Q ⟨#[]⟩,Z O 0 0,Z O 0 0] 53
abbrev sqT (b n:Nat) (z:Option Addr×Nat):Aw:=blk b [I J 1,Q ⟨#[]⟩,I J 0,I J 0,Q ⟨#[]⟩,Z O 0 0,Z z.1 n z.2] 53
abbrev SqP:=(Option Addr×Nat)×List TY
abbrev KM (ys:List TY):List Value:=(ys.map AM).flatten
def sqZ (b8:Nat) (pre:List Ig) (z:SqP):List Aw:=[pr (z.2.length=pre.length),star (CC (pre.map Jj) (z.2.map AM)),sqT b8 pre.length z.1,An 53 7 (Z z.1.1 pre.length z.1.2) pre.length (KM z.2)]
theorem Afc (ys:List TY):(KM ys).length=ys.length*7:=by
 unfold KM;rw[Pe _ (fun u hu=>by obtain⟨x,_,rfl⟩:=List.mem_map.1 hu;rfl),List.length_map]
theorem Amc (ys:List TY) (y z:TY):Bo (KM ys++AM z) (0+ys.length*7) (AM y)=F (KM ys++AM y):=by
 rw[Nat.zero_add,<- Afc ys];exact Ee (KM ys) (AM z) 0 (AM y) (AM y) rfl
theorem Afg {C:Nat->Prop} {w0 w:Y} {Zz:List Aw} {b8:Nat} {pre:List Ig} {x:D8} {r:List D8} {t:Tr} {rest:List En} {y:TY} {z:SqP} (h:Mem C w0 ([A9 (AM y) t,sqT b8 (pre.length+1) z.1,An 53 7 (Z z.1.1 (pre.length+1) z.1.2) (pre.length+1) (KM z.2++AM y),star (CC (pre.map Jj) (z.2.map AM))]++Zz) w) (hl:z.2.length=pre.length):
  Mem C w0 (JB (fun z=>star (sqZ b8 (pre++[(x,r,.ok t rest)]) z))::Zz) w:=by
 have h1:=FK (A:=CC (pre.map Jj) (z.2.map AM)) (B:=[A9 (AM y) t]) (Mem.pk h (.tl (.tl (.tl .hd))));rw[<- Ik _ _ _ _ (by rw[List.length_map,List.length_map,hl])] at h1;have h2:=h1.pr (p:=(z.2++[y]).length=pre.length+1) (by rw[List.length_append,hl];rfl);refine Mem.toEx (z.1,z.2++[y]) (Mem.toStar ?_);unfold sqZ;rw[show(pre++[(x,r,BR.ok t rest)]).length=pre.length+1 by simp,show(pre++[(x,r,BR.ok t rest)]).map Jj=pre.map Jj++[t] by simp[Jj],List.map_append,show KM (z.2++[y])=KM z.2++AM y by unfold KM;simp];exact h2
end
section
set_option maxHeartbeats 32000000
set_option maxRecDepth 100000
section
variable {P:Program} {n:Nat} {ds:List Deferred} {ops:Array Oper} {K:Act->Y->Prop} {i:Nat} {T pl pend:List Nat} {l:Env} {Zf S:Y->Prop}
 {t:Nat} {ty:TypeId} {ps:String} {af:Array Edge} {gd:Option (Nat×Bool)} {C:Nat->Prop} {w0:Y} {A A':List Aw}
theorem Zz.now {ι:Type} {o:Oper} {Si:ι->Y->Prop} {li:ι->Env} (ho:AQ ops.toList i=F o:=by rfl) (he:Does P n ds o S l Si li) (h:∀ x,Rz P n ds true ops K T pl pend Zf (Si x) (li x)) (hp:∀ x w,Si x w->Zf w:=by exact fun x w h=>h.sel) (hg:D0 ops.toList l o.guard=F true:=by rfl) (hr:(Region.ready .any ops (lst ops (i::(pl++T)))==[i])=true:=by kernel_rfl):Rz P n ds true ops K T (i::pl) pend Zf S l:=by
 intro hok;obtain⟨hok',o',ho',hd⟩:=Qk hok;rw[EV,Array.getElem?_toList] at ho;rw[ho] at ho';cases ho'
 have h:=fun x=>h x hok';have hr:=eq_of_beq hr;dsimp only at h |-;intro Rs hRs a w ha hw;show E9 P .any ops K (Tm P ops Rs pend) ((pl++T).length+1) (lst ops (i::(pl++T))) a w;unfold Md at hok;rw[Bool.and_eq_true] at hok;obtain⟨hcn,_,_,_⟩:=Mj hok.1 ho;refine⟨(fun h0=>by rw[hr] at h0;cases h0),?_⟩;rw[hr];intro j hj;obtain rfl:j=i:=by simpa using hj
 unfold Ms;rw[ho];dsimp only
 rw[Di ha hg,if_pos rfl];refine he a w _ ha (ha.addl hd) hw (fun x v w' hs hk=>?_);have:=h x Rs hRs _ w' hk hs;rw[<- FC hcn] at this;exact⟨fun k hk _=>hRs k hk w' (hp x w' hs),this⟩
theorem D.ld {x:Operand} {tt bt:TypeId} {b o m:Nat} {g:Bool} {v:Value} {cs:List Value} (hx:ev l x=F (.pointer (F ⟨b,o,O⟩)):=by rfl) (hb:blk b cs bt∈A:=by(repeat (first | exact List.Mem.head _ | apply List.Mem.tail));first | done | fail) (ht:∀ w,(isAgg tt).run P w=.ok g w:=by intro w;simp;(try rfl);first | done | fail) (hs:∀ w,(sizeOf tt).run P w=.ok m w:=by intro w;simp;(try rfl);first | done | fail) (hv:ldV g m (cs.drop o)=F v:=by rfl):
  Does P n ds ⟨F t,.load tt x,ty,ps,af,gd⟩ (Mem C w0 A) l (fun _:Unit=>Mem C w0 A) (fun _=>(t,v)::l):=fun a w K' ha hd hw hk=>by
 have h1:=(Cs.of_blk (hw.blk hb)).drop o;rw[Nat.zero_add] at h1;unfold FI;rw[run_load hx ha (Hr h1 hv (ht w) (hs w))];exact hk () _ w hw (hd _)
end
section
variable {Wo:I7} {n:Nat}
theorem Aa5 (hn1:n<=1000000) (hB0:∀ m,m<n->Uo Wo m) (hN:∀ m,m<n->Yk Wo m) (col:Int) (d:Nat) (es:List D8) (hes:H2 Wo es) (hd:d<=24) (hn:4*E4 (Bv es)+1<=n):BkC Wo es 150 [I J col,I J d] (BK n col d (Bv es) []):=by
 intro rb w hB Fz hX hF hQ;have hle:=G6 (Bv es);rw[List.length_map] at hle;have hR:=Ak3 col d;refine V.enter _ Tryz.func150 (Mem.startX hX hF) ?_;refine W ?_;refine R.new fun b3 h3=>?_;refine R.new fun b5 h5=>?_;refine R.new fun b6 h6=>?_;refine R.new fun b7 h7=>?_
 repeat refine W ?_
 refine R.new fun b8 h8=>?_
 repeat refine W ?_
 refine R.cf (fun w' h'=>To rb col _ _ w') (fun q=>?_);refine R.z ?_;have hI:=Ahe (Wo:=Wo) (es0:=Bv es) (col:=col) (bg:=.dash) (step:=Ys (fun m x r=>B2 m (d+1) x r) n) (.inl rfl) (fun i x r t rest h=>(hR.mu _ _ _ t rest h).length_le) (by rw[List.length_map];omega) rb q.1 q.2.1 q.2.2;refine V.range hI (fun pre=>[blk b3 [.pointer (F ⟨rb,0,O⟩)] 153,blk b5 [I J d] 3,Ut b6,blk b7 [.nilIface] 61,JB fun z=>star (sqZ b8 pre z)])
  (fun co pre=>[JB fun u:(TY×List D8)×Int×Int=>star [pr (co=.ret/\BK n col d (Bv es) []=.bad u.2.1 u.2.2/\u.1.2.length<=1000000),blk b6 (AM u.1.1) 53,blk b7 [Oq u.2.1 u.2.2] 61,E3 rb u.1.2]])
  (fun w' h=>?_) (fun w1 w2 G h hb hG=>⟨hB.ext hQ (h.1.trans (B4.of_below (C:=Fz) hb) (fun _ _ e=>e)),hB.of hQ G hG⟩) (fun r' pre x Wb C' T T' Rl hadm hx hC hmid=>?_) (fun D xs hfin=>?_) (fun D co xs=>?_)
 ·have h1:=N9 (Mem.sel h:Mem Fz w (E3 rb es::[blk q.1 [.pointer (F ⟨rb,0,O⟩)] 153,blk q.2.1 [I J col] 3,blk q.2.2 [TS .dash] 290,blk b3 [.pointer (F ⟨rb,0,O⟩)] 153,blk b5 [I J d] 3,Ut b6,blk b7 [.nilIface] 61,sqT b8 0 (O,0)]) w') ⟨rfl,hes⟩;have h2:=(Mem.toStar (B:=[]) (h1.ownNil 53 7)).pr (p:=([]:List TY).length=([]:List Ig).length) rfl;have h3:=Mem.toEx (f:=fun z=>star (sqZ b8 [] z)) ((O,0),[]) (Mem.toStar (B:=[_,_,_,_]) (h2.sel:Mem Fz w [pr (([]:List TY).length=([]:List Ig).length),star [],sqT b8 0 (O,0),An 53 7 (Z O 0 0) 0 [],enR Wo rb (Bv es),blk q.1 [.pointer (F ⟨rb,0,O⟩)] 153,blk q.2.1 [I J col] 3,blk q.2.2 [TS .dash] 290,blk b3 [.pointer (F ⟨rb,0,O⟩)] 153,blk b5 [I J d] 3,Ut b6,blk b7 [.nilIface] 61] w'));exact h3.sel
 ·have hBb:=hB.ext hQ hx;have hQb:=hB.of hQ C' hC;obtain⟨hch,had⟩:=hadm;obtain⟨ht1,_⟩:=hch.told hR hn;rw[had.at_,AG] at ht1;obtain⟨m,hm⟩:∃ m,n - pre.length - 1=m+1:=⟨n - pre.length - 2,by omega⟩
  obtain⟨xp,r,rs⟩:=x;have ht1:4*(xp.1.l.length+1+E4 (Bv r))+1+pre.length<=n:=ht1;have hC1:=fun w1 (h:Ll Wo w1)=>Yg (n:=m) (by omega) (hB0 m (by omega)) (hN m (by omega)) xp r (d+1) had.ok (by omega) (by show 4*E4 (xp.1::Bv r)<=m+1;rw[AG];omega) rb w1 h;rw[<- (show rs=B2 (m+1) (d+1) xp.1 (Bv r) by rw[<- hm];exact had.st)] at hC1
  repeat (first | refine W ?_ | refine R.new fun _ _=>?_)
  refine V.mid hmid ?_;refine V.ux (f:=fun z=>star (sqZ b8 pre z)) (fun z=>?_);refine V.us (B:=[pr (z.2.length=pre.length),star (CC (pre.map Jj) (z.2.map AM)),sqT b8 pre.length z.1,An 53 7 (Z z.1.1 pre.length z.1.2) pre.length (KM z.2)]) ?_;refine V.prop (p:=z.2.length=pre.length) (fun hzl=>?_)
  repeat refine W ?_
  refine R.cq (fun w' h'=>hC1 w' (hBb.ext hQb h'.1)) (fun G hG=>hBb.of hQb G hG) (fun y=>?_);iterate 3 refine W ?_
  refine R.new fun b10 h10=>?_;iterate 3 refine W ?_
  cases rs with
  | out=>exact V.know (p:=False) (fun w' h'=>let ⟨_,h1,_⟩:=h'.has (X:=pr False) (by simp[Uq]);h1) (fun h=>h.elim)
  | bad no e=>
   have hbad:=hch.bad hR hn had rfl;unfold Zr Oq Uq;refine V.us (B:=[E3 rb y.2,pr (y.2.length<=1000000)]) ?_;refine V.prop (p:=y.2.length<=1000000) (fun hl=>?_) (hp:=.tail _ (.head _))
   repeat refine W ?_
   refine V.pre (S':=Mem C' Wb [JB fun u:(TY×List D8)×Int×Int=>star [pr (Code.ret=.ret/\BK n col d (Bv es) []=.bad u.2.1 u.2.2/\u.1.2.length<=1000000),blk b6 (AM u.1.1) 53,blk b7 [Oq u.2.1 u.2.2] 61,E3 rb u.1.2],T']) ?_ (by intro w' h';exact Mem.toEx (((1,⟨#[]⟩,AJ,(O,0,0),(z.1.1,pre.length,z.1.2)),y.2),no,e) (Mem.toStar (B:=[_,_,_,_]) (Mem.sel (h'.pr (p:=Code.ret=.ret/\BK n col d (Bv es) []=.bad no e/\y.2.length<=1000000) ⟨rfl,hbad,hl⟩))));exact V.rr
  | ok t rest=>
   unfold Zr Uq;refine V.us (B:=[E3 rb y.2,A9 (AM y.1) t,pr (Bv y.2=rest/\H2 Wo y.2)]) ?_;refine V.prop (p:=Bv y.2=rest/\H2 Wo y.2) (fun hy=>?_) (hp:=.tail _ (.tail _ (.head _)));iterate 5 refine W ?_
   have hpl:pre.length+1<=1000000:=by omega
   have hset:Bo (KM z.2++AM (GE AJ)) (0+pre.length*7) (AM y.1)=F (KM z.2++AM y.1):=by rw[<- hzl];exact Amc z.2 y.1 (GE AJ)
   refine V.regT [1,3,4,5,6,8,7,9] [0,2] (Mem C' Wb [blk b10 (AM y.1) 53]) ?_;iterate 2 refine Wz ?_
   refine Zz.last (ι:=Nat×Nat) (Si:=fun u=>Mem C' Wb ([A9 (AM y.1) t,sqT b8 (pre.length+1) (F ⟨u.1,0,O⟩,u.2),An 53 7 (Z (F ⟨u.1,0,O⟩) (pre.length+1) u.2) (pre.length+1) (KM z.2++AM y.1),star (CC (pre.map Jj) (z.2.map AM)),E3 rb y.2,blk b3 [.pointer (F ⟨rb,0,O⟩)] 153,blk b5 [I J d] 3,Ut b6,blk b7 [.nilIface] 61,T'])) (li:=fun _=>[]) (fun hV=>?_) (fun u=>?_)
   ·refine Zz.fk 1 4 (T1:=[3,4,5,6,8]) (R1:=[7,9]) (T2:=[1,3,5,6,8]) (R2:=[7,9]) (d1:=by exact D.ld) (d2:=by exact D.bs (m:=1)) (h1:=fun _=>?_) (h2:=fun bn=>?_);refine Wz ?_;refine Zz.do (hd:=by exact D.bs (m:=1)) (h:=fun bn=>?_);refine Zz.do (hd:=by exact D.app elT (k:=pre.length) (m:=1) (xs:=KM z.2) (news:=AM (GE AJ)) (fun w' h'=>(Cs.of_blk (h'.blk (List.Mem.head _))).add) (by omega)) (h:=fun u=>?_);replace hV:=hV u
    rotate_left
    refine Zz.now (he:=by exact D.ld) (h:=fun _=>?_);refine Wz ?_;refine Zz.do (hd:=by exact D.app elT (k:=pre.length) (m:=1) (xs:=KM z.2) (news:=AM (GE AJ)) (fun w' h'=>(Cs.of_blk (h'.blk (List.Mem.head _))).add) (by omega)) (h:=fun u=>?_);replace hV:=hV u;all_goals
     refine Zz.ix (k:=pre.length) (Nat.lt_succ_self _) ?_;refine Wz ?_;refine Zz.fk 7 9 (T1:=[9]) (R1:=[]) (T2:=[7]) (R2:=[]) (d1:=by exact D.sw hset) (d2:=by exact D.st) (h1:=fun _=>?_) (h2:=fun _=>?_);refine Zz.do (hd:=by exact D.st) (h:=fun _=>?_)
     rotate_left
     refine Zz.do (hd:=by exact D.sw hset) (h:=fun _=>?_);all_goals
      refine Zz.off (fun w' h'=>h'.sel) ?_;exact R.z (V.less hV (fun w' h'=>h'.sel))
   ·refine V.pre (S':=Mem C' Wb ((enR Wo rb rest::[blk b3 [.pointer (F ⟨rb,0,O⟩)] 153,blk b5 [I J d] 3,Ut b6,blk b7 [.nilIface] 61,JB fun z=>star (sqZ b8 (pre++[(xp,r,.ok t rest)]) z)])++[T'])) ?_ (fun w' h'=>by
     have h1:=Afg (b8:=b8) (x:=xp) (r:=r) (rest:=rest) (z:=((F ⟨u.1,0,O⟩,u.2),z.2)) (Zz:=[E3 rb y.2,blk b3 [.pointer (F ⟨rb,0,O⟩)] 153,blk b5 [I J d] 3,Ut b6,blk b7 [.nilIface] 61,T']) h' hzl;exact(N9 (Mem.pk h1 (.tl .hd)) hy).sel)
    rw[<- Uy Wo rb pre xp r t rest];exact V.rn
 ·obtain⟨hc1,_⟩:=hfin.1.told hR hn;have hr:=hfin.told hR hn;refine V.ux (f:=fun z=>star (sqZ b8 xs z)) (fun z=>?_);refine V.us (B:=[pr (z.2.length=xs.length),star (CC (xs.map Jj) (z.2.map AM)),sqT b8 xs.length z.1,An 53 7 (Z z.1.1 xs.length z.1.2) xs.length (KM z.2)]) ?_;refine V.prop (p:=z.2.length=xs.length) (fun hzl=>?_);refine V.ux (f:=fun es2:List D8=>star [E3 rb es2,pr (es2.map (·.1)=Ey (Bv es) xs/\H2 Wo es2)]) (fun es2=>?_);refine V.us (B:=[E3 rb es2,pr (es2.map (·.1)=Ey (Bv es) xs/\H2 Wo es2)]) ?_;refine V.prop (p:=es2.map (·.1)=Ey (Bv es) xs/\H2 Wo es2) (fun he2=>?_) (hp:=.tail _ (.head _));rw[<- he2.1] at hc1 hr;have hc1:4*E4 (Bv es2)+1+xs.length<=n:=hc1;have hl2:=G6 (Bv es2);rw[List.length_map] at hl2;have hends:=fun(Zz:List Aw) w' (h':Mem Fz w Zz w') hm=>SU rb es2 col Fz w w' Zz h' hm (by omega);have hcase:(BK n col d (Bv es) []=.ok (Bt (xs.map Jj)) (Bv es2)/\RK col es2=.nilIface)\/∃ no e,BK n col d (Bv es) []=.bad no e/\RK col es2=Oq no e:=by
   rw[show BK n col d (Bv es) []=_ from hr];cases es2 with
   | nil=>exact .inl ⟨rfl,rfl⟩
   | cons x r=>
    show(Dz col _ x.1 (Bv r)=_/\_)\/∃ no e,Dz col _ x.1 (Bv r)=_/\_;unfold Dz RK;dsimp only
    by_cases h1:x.1.col<col
    ·rw[if_pos h1,if_pos h1];exact .inl ⟨rfl,rfl⟩
    ·rw[if_neg h1,if_neg h1];by_cases h2:col<x.1.col
     ·rw[if_pos h2,if_pos h2];exact .inr ⟨_,_,rfl,rfl⟩
     ·rw[if_neg h2,if_neg h2];exact .inr ⟨_,_,rfl,rfl⟩
  rcases hcase with ⟨h1,h2⟩ | ⟨no,e,h1,h2⟩;all_goals
   rw[h2] at hends;rw[h1];refine W ?_;refine Zz.on (Mem Fz w [sqT b8 xs.length z.1,blk b3 [.pointer (F ⟨rb,0,O⟩)] 153]) ?_;iterate 3 refine Wy ?_
   refine Zz.c (fun w' h'=>hends _ w' h' (by simp)) ?_;iterate 2 refine Wy ?_
   refine Zz.off (fun w' h'=>h'.sel) ?_;refine W ?_;refine V.eA (fun w' h'=>?_) (hr:=.one rfl (by(repeat (first | exact List.Mem.head _ | apply List.Mem.tail))) (by intro w;kernel_rfl) .nil)
  ·have h3:Mem Fz w (An 53 7 (Z z.1.1 xs.length z.1.2) (xs.map Jj).length (KM z.2)::star (CC (xs.map Jj) (z.2.map AM))::[E3 rb es2]) w':=by rw[List.length_map];exact h'.sel
   have h4:=Gq (k:=1) (nm:=⟨#[]⟩) (x:=AJ) (ks:=[]) (kv:=Z O 0 0) (by rw[List.length_map,List.length_map,hzl]) (Mem.ksNil h3);exact⟨((1,⟨#[]⟩,AJ,(O,0,0),(z.1.1,xs.length,z.1.2)),es2),rfl,PB h4.sel ⟨rfl,he2.2⟩⟩
  ·exact⟨((1,⟨#[]⟩,AJ,(O,0,0),(z.1.1,xs.length,z.1.2)),es2),rfl,EP (Wo:=Wo) (no:=no) (e:=e) h'.sel (by omega)⟩
 ·refine V.ux (f:=fun u:(TY×List D8)×Int×Int=>star [pr (co=.ret/\BK n col d (Bv es) []=.bad u.2.1 u.2.2/\u.1.2.length<=1000000),blk b6 (AM u.1.1) 53,blk b7 [Oq u.2.1 u.2.2] 61,E3 rb u.1.2]) (fun u=>?_);refine V.us (B:=[pr (co=.ret/\BK n col d (Bv es) []=.bad u.2.1 u.2.2/\u.1.2.length<=1000000),blk b6 (AM u.1.1) 53,blk b7 [Oq u.2.1 u.2.2] 61,E3 rb u.1.2]) ?_;refine V.prop (p:=co=.ret/\BK n col d (Bv es) []=.bad u.2.1 u.2.2/\u.1.2.length<=1000000) (fun⟨hco,hbad,hl⟩=>?_);subst hco;rw[hbad];refine V.eA (fun w' h'=>?_) (hr:=.one rfl (by(repeat (first | exact List.Mem.head _ | apply List.Mem.tail))) (by intro w;kernel_rfl) .nil);exact⟨u.1,rfl,EP (Wo:=Wo) (no:=u.2.1) (e:=u.2.2) h'.sel hl⟩
end
end
end Go.Proofs.YtdpppepmkeinaaaGreatDoor
