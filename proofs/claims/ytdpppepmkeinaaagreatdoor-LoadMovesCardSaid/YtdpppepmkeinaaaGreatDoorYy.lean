/- What is proved: a part of the walk of the program and of its plain laws; no condition beside those that each theorem names. -/
import Derived.Test.YtdpppepmkeinaaaGreatDoorYx
import Derived.Test.YtdpppepmkeinaaaGreatDoorYu
import Derived.Test.YtdpppepmkeinaaaGreatDoorYw
import Derived.Test.YtdpppepmkeinaaaGreatDoorYv
import Derived.Test.YtdpppepmkeinaaaGreatDoorYh
import Derived.Test.YtdpppepmkeinaaaGreatDoorYb
import Derived.Test.YtdpppepmkeinaaaGreatDoorYa
namespace Go.Proofs.YtdpppepmkeinaaaGreatDoor
open Go Go.RowKit Go.Lib
open Go.Value renaming int->I,string->Q,slice->Z
open Go.IntKind renaming i64->J
open Option renaming none->O,some->F
open _root_.Go renaming World->Y
set_option linter.unusedSimpArgs false
set_option linter.unusedVariables false
set_option linter.unusedSectionVars false
section
set_option maxHeartbeats 4000000
set_option maxRecDepth 100000
theorem RE (S:Nat->Prop) (rt:Sc->Bool) (nb:Bool) (k:Int) (nm:ByteArray) (x:Sc) (A B:Option Addr) (kc tl tc:Nat) (ks:List Sc) (w:Y) (h:GZ w S A ks) (hn:ks.length<=1000000) (hx:Bk 139 rt x w) (hR:∀ y∈ks,Bk 139 rt y w)
  (hN:∀ w1,Below w.heap.size w w1->Calls Tryz.prog 17 #[Q nm] w1 fun e w'=>e=.returned (.bool nb)/\Below w1.heap.size w1 w'):
  Calls Tryz.prog 156 #[.agg (PS k nm x (Z A ks.length kc) (Z B tl tc)).toArray] w fun e w'=>e=.returned (.bool (BD rt nb k nm x ks tl))/\Below w.heap.size w w':=by
 have hc:k=0\/k=1\/k=2\/k=3\/k<0\/4<=k:=by omega
 refine V.enter _ Tryz.func156 (Mem.start (C:=A5) w) ?_
 repeat (first | refine W ?_ | refine R.new fun _ _=>?_)
 rcases hc with rfl | rfl | rfl | rfl | hk | hk;refine R.yes 9 (p:=(0:Int)<=0) (by decide) ?_
 repeat refine W ?_
 refine R.c (fun w' h'=>Acq rt 0 nm x A B ks.length kc tl tc w' (hx.to h'.1.below)) ?_;generalize he:Nw rt x ks.length tl=q
 rotate_left
 refine R.yes 9 (p:=(0:Int)<=1) (by decide) ?_
 repeat refine W ?_
 refine R.c (fun w' h'=>Ach 1 nm x A ks.length kc (Z B tl tc) w') ?_;generalize he:O3 x ks.length=q
 rotate_left
 refine R.yes 9 (p:=(0:Int)<=2) (by decide) ?_
 repeat refine W ?_
 refine R.c (fun w' h'=>Acz S rt 2 nm x A B kc tl tc ks w' (h.to fun b o v hb hv=>⟨h'.1.cell hv (fun e=>e),hb⟩) hn (fun y hy=>(hR y hy).to h'.1.below)) ?_;generalize he:Uz rt x ks tl=q
 rotate_left
 refine R.yes 9 (p:=(0:Int)<=3) (by decide) ?_
 repeat refine W ?_
 refine R.c (fun w' h'=>Z3 3 nm x A B ks.length kc tl tc w') ?_;generalize he:Uw nm x ks.length tl=q
 rotate_left
 ·refine R.no 9 (p:=0<=k) (by omega) ?_
  repeat refine W ?_
  refine V.end fun w' h'=>?_;exact⟨by simp[one,BD,Fv,show k≠0 by omega,show k≠1 by omega,show k≠2 by omega,show k≠3 by omega],h'.1.below⟩
 ·refine R.yes 9 (p:=0<=k) (by omega) ?_
  repeat refine W ?_
  refine R.no 15 (p:=k<4) (by omega) ?_
  repeat refine W ?_
  refine V.end fun w' h'=>?_;exact⟨by simp[one,BD,Fv,show k≠0 by omega,show k≠1 by omega,show k≠2 by omega,show k≠3 by omega],h'.1.below⟩
 all_goals
  repeat refine W ?_
  by_cases hb:q=true
  ·refine R.is 24 hb ?_
   repeat refine W ?_
   by_cases hm:nm.toList.isEmpty=true
   ·refine R.is 29 hm ?_
    repeat refine W ?_
    refine V.end fun w' h'=>?_;exact⟨by simp[one,BD,Fv,he,hb,hm],h'.1.below⟩
   ·have hm:nm.toList.isEmpty=false:=by simpa using hm
    refine R.is 29 hm ?_
    repeat refine W ?_
    refine R.c (fun w' h'=>hN w' h'.1.below) ?_
    repeat refine W ?_
    refine V.end fun w' h'=>?_;exact⟨by simp only[BD,Fv];rw[hm];simp[one,he,hb],h'.1.below⟩
  ·have hb:q=false:=by simpa using hb
   refine R.is 24 hb ?_
   repeat refine W ?_
   refine V.end fun w' h'=>?_;exact⟨by simp[one,BD,Fv,he,hb],h'.1.below⟩
end
section
set_option maxHeartbeats 4000000
set_option maxRecDepth 100000
theorem ZG (x y:ByteArray):(x==y)=decide (x=y):=by
 cases x with | mk a=>cases y with | mk b=>
 show(a==b)=_;rw[Bool.eq_iff_iff];simp
theorem Aia:L2 Tryz.prog 9 Value.string:=L2.plain (dk:=.string) (by kernel_rfl) rfl (fun x y=>by show F (x==y)=_;rw[ZG]) (fun x=>by show(x==x)=true;rw[ZG];simp)
def Ha (e:Int):Value:=if e=0 then .nilIface else .iface 229 (.agg #[I J e])
theorem V7 (c nb:Nat) (root:Int) (LA:Option Addr) (ln lc:Nat) (names:List (ByteArray×Value)) (sb dup:Bool) (k deep:Int) (nm:ByteArray) (x:Sc) (KA:Option Addr) (kl kc:Nat) (tv:Value) (w:Y)
  (hc:Cs w c 0 [I J root,Z LA ln lc,.map (F nb)]) (hM:Mp w Value.string nb names)
  (hS:∀ w1,Below w.heap.size w w1->Calls Tryz.prog 156 #[.agg (PS k nm x (Z KA kl kc) tv).toArray] w1 fun e w'=>e=.returned (.bool sb)/\Below w1.heap.size w1 w')
  (hD:∀ w1,Below w.heap.size w w1->Calls Tryz.prog 157 #[Z KA kl kc] w1 fun e w'=>e=.returned (.bool dup)/\Below w1.heap.size w1 w'):
  Calls Tryz.prog 113 #[.pointer (F ⟨c,0,O⟩),.agg (PS k nm x (Z KA kl kc) tv).toArray,I J deep] w fun e w'=>e=.returned (Ha (F7 sb dup k deep (AT nm names).isSome ln))/\Below w.heap.size w w':=by
 refine V.enter _ Tryz.func113 (Mem.start (C:=A5) w) ?_
 repeat (first | refine W ?_ | refine R.new fun _ _=>?_)
 refine R.lo 2 hc ?_
 repeat refine W ?_
 refine R.looko (e:=3) nm Aia hM ?_;refine R.re 17 (SJ _ _) ?_
 repeat refine W ?_
 refine V.ifp (fun h1=>?_) (fun h1=>?_)
 ·repeat refine W ?_
  refine V.end fun w' h'=>?_;exact⟨by unfold F7;rw[if_pos (by omega)];rfl,h'.1.below⟩
 ·repeat refine W ?_
  refine R.c (fun w' h'=>hS w' h'.1.below) ?_
  repeat refine W ?_
  refine V.if (fun h2=>?_) (fun h2=>?_)
  ·repeat refine W ?_
   refine V.end fun w' h'=>?_;exact⟨by unfold F7;rw[if_neg (by omega),if_pos (by simpa using h2)];rfl,h'.1.below⟩
  ·repeat refine W ?_
   refine R.c (fun w' h'=>hD w' h'.1.below) ?_
   repeat refine W ?_
   refine V.if (fun h3=>?_) (fun h3=>?_)
   ·repeat refine W ?_
    refine V.end fun w' h'=>?_;exact⟨by unfold F7;rw[if_neg (by omega),if_neg (by simpa using h2),if_pos h3];rfl,h'.1.below⟩
   ·repeat refine W ?_
    have e0:∀ r:Int,(if 24<deep then (73:Int) else if sb=false then 93 else if dup=true then 101 else r)=r:=fun r=>by rw[if_neg (by omega),if_neg (by simpa using h2),if_neg (by simpa using h3)]
    by_cases h4:k=3
    ·refine R.is 43 (c:=true) ?_ ?_
     ·simp[h4]
     repeat refine W ?_
     refine V.if (fun h5=>?_) (fun h5=>?_)
     ·repeat refine W ?_
      refine V.end fun w' h'=>?_;exact⟨by unfold F7;rw[e0,if_pos ⟨h4,by simpa using h5⟩];rfl,h'.1.below⟩
     ·repeat refine W ?_
      refine R.is 54 (c:=false) ?_ ?_
      ·simp[h4]
      repeat refine W ?_
      refine V.end fun w' h'=>?_;exact⟨by unfold F7;rw[e0,if_neg (fun h=>by have h6:=h.2;cases hm:AT nm names with | none=>rw[hm] at h5;cases h5 | some v=>rw[hm] at h6;cases h6),if_neg (fun h=>h.1 h4)];rfl,h'.1.below⟩
    ·refine R.is 43 (c:=false) ?_ ?_
     ·simp[h4]
     repeat refine W ?_
     refine R.is 54 (c:=true) ?_ ?_
     ·simp[h4]
     repeat refine W ?_
     refine R.lo 1 hc ?_
     repeat refine W ?_
     refine V.if (fun h5=>?_) (fun h5=>?_)
     ·repeat refine W ?_
      refine V.end fun w' h'=>?_;exact⟨by unfold F7;rw[e0,if_neg (fun h=>h4 h.1),if_pos ⟨h4,by simp at h5;omega⟩];rfl,h'.1.below⟩
     ·repeat refine W ?_
      refine V.end fun w' h'=>?_;exact⟨by unfold F7;rw[e0,if_neg (fun h=>h4 h.1),if_neg (fun h=>by simp at h5;omega)];rfl,h'.1.below⟩
end
section
set_option maxRecDepth 100000
theorem elS:El Tryz.prog 37 36 3 32:=⟨by kernel_rfl,by kernel_rfl,by decide,by decide⟩
theorem TU (S:Nat->Prop) (A:Option Addr) (c:Nat) (ks:List Sc) (w:Y) (h:GZ w S A ks) (hn:ks.length<=1000000):
  Calls Tryz.prog 114 #[Z A ks.length c] w fun e w'=>∃ v,e=.returned v/\Fr w w' [Mg v ks]:=by
 cases A with
 | none=>
  have:ks=[]:=by
   cases ks with
   | nil=>rfl
   | cons x r=>obtain⟨b,o,e,_⟩:=h 0 x rfl;cases e
  subst this;refine V.enter _ Tryz.func114 (Mem.start (C:=A5) w) ?_
  repeat refine W ?_
  refine V.end fun w' h'=>?_;exact⟨_,rfl,h'.1.below,fun _=>False,⟨O,0,rfl,fun j x hj=>by cases hj⟩,fun _ e=>e.elim,trivial⟩
 | some ad=>
  have hcell:∀ w',B4 A5 w w'->∀ j u,(ks.flatMap Fl)[j]? =F u->w'.cell? (ad.add j)=F u:=fun w' hx j u hj=>by
   obtain⟨x,h1,h2⟩:=Qv hj;obtain⟨b,o,e,_,hc⟩:=h _ x h1;cases e
   exact(hx.cs (h.cs) (fun e=>e)).add j u hj
  refine V.enter _ Tryz.func114 (Mem.start (C:=A5) w) ?_
  repeat refine W ?_
  refine R.bo (m:=0) (sz:=3) (cs:=[]) rfl (by omega) fun b hb=>?_
  repeat refine W ?_
  refine R.app elS (k:=0) (xs:=[]) (news:=ks.flatMap Fl) (fun w h=>hcell w h.1) (by omega) (fun a c=>?_) (hl:=Ad9 ks) (h1:=Ags ks)
  repeat refine W ?_
  refine V.end fun w' h'=>?_;rw[Nat.zero_add,List.nil_append] at h';exact⟨_,rfl,h'.1.below,h'.to_fr.2.as fun Fz w=>An.ks⟩
end
section
set_option maxHeartbeats 4000000
set_option maxRecDepth 100000
theorem elI:El Tryz.prog 38 3 1 8:=⟨by kernel_rfl,by kernel_rfl,by decide,by decide⟩
theorem elN:El Tryz.prog 24 40 6 88:=⟨by kernel_rfl,by kernel_rfl,by decide,by decide⟩
abbrev TV (c:Nat) (s:St):Aw:=XQ 162 40 3 c s
def Hx (wB:Y) (Fz:Nat->Prop):Prop:=∀ b,Fz b->wB.heap.size<=b
def Abt (wB:Y) (rt:Sc->Bool) (nb:ByteArray->Bool) (t:Tr):Prop:=
 ∀ (deep:Int) (s:St) (c:Nat) (w:Y) (vs:List Value),D7 wB (fun b=>b<wB.heap.size) t vs->Below wB.heap.size wB w-> -1000<=deep->deep<=1000→
  Dm Tryz.prog 74 #[.pointer (F ⟨c,0,O⟩),.agg vs.toArray,I J deep] w (TV c s) (Hx wB) (fun _:Unit=>.tuple #[I J (BO (BY rt nb) deep t s).2.1,Ha (BO (BY rt nb) deep t s).2.2]) (fun _=>TV c (BO (BY rt nb) deep t s).1)
def O1 (c b3 b5 b9 a:Nat) (deep:Int) (s:St):List Aw:=[TV c s,blk b3 [.pointer (F ⟨c,0,O⟩)] 159,blk b5 [I J deep] 3,blk b9 [I J a] 3]
theorem Hx.of {wB w:Y} {Fz:Nat->Prop} (hB:Below wB.heap.size wB w) (hF:Hx wB Fz) (G:Nat->Prop) (h:∀ b,G b->w.heap.size<=b\/Fz b):Hx wB G:=fun b hb=>(h b hb).elim (fun h=>Nat.le_trans hB.size h) (hF b)
theorem B4.belowB {wB w w':Y} {Fz:Nat->Prop} (hB:Below wB.heap.size wB w) (hF:Hx wB Fz) (h:B4 Fz w w'):Below wB.heap.size wB w':=⟨h.os.trans hB.os,h.tape.trans hB.tape,h.output.trans hB.output,Nat.le_trans hB.size h.size,fun k hk=>(h.block k (Nat.lt_of_lt_of_le hk hB.size) (fun e=>by have:=hF k e;omega)).trans (hB.block k hk)⟩
theorem MK (wB:Y) (rt:Sc->Bool) (nb:ByteArray->Bool) (t:Tr) (hL:Abt wB rt nb t) (deep:Int) (s:St) (c b3 b5 b9 a i:Nat) (w:Y) (vs:List Value) (hT:D7 wB (fun b=>b<wB.heap.size) t vs) (hB:Below wB.heap.size wB w) (hd: -1000<=deep) (hd2:deep<=999)
  (ha:(s.nodes[a]?).map (·.kids.length)=F i) (hi:i<1000000):
  Dm Tryz.prog 115 #[.agg vs.toArray,.pointer (F ⟨b3,0,O⟩),.pointer (F ⟨b5,0,O⟩),.pointer (F ⟨b9,0,O⟩)] w (star (O1 c b3 b5 b9 a deep s)) (Hx wB) (fun _:Unit=>Ha (BO (BY rt nb) (deep+1) t s).2.2)
   (fun _=>star (O1 c b3 b5 b9 a deep ((BO (BY rt nb) (deep+1) t s).1.kid a (BO (BY rt nb) (deep+1) t s).2.1))):=by
 intro Fz hX hF hQ;obtain⟨r,hr⟩:∃ r,BO (BY rt nb) (deep+1) t s=r:=⟨_,rfl⟩
 have hk:=FH (BY rt nb) t (deep+1) s;have hL:=hL (deep+1) s c;rw[hr] at hk hL |-;obtain⟨x,hx,hxi⟩:=Option.map_eq_some_iff.1 ha;have halt:a<s.nodes.length:=(List.getElem?_eq_some_iff.1 hx).1;have hxa:r.1.nodes[a]? =F x:=by rw[hk.2 a halt];exact hx
 have hvs7:∃ v0 v1 v2 v3 v4 v5 v6,vs=[v0,v1,v2,v3,v4,v5,v6]:=by
  cases t with
  | mk=>unfold D7 at hT;obtain⟨KA,kc,A',c',rfl,_⟩:=hT;exact⟨_,_,_,_,_,_,_,rfl⟩
 obtain⟨v0,v1,v2,v3,v4,v5,v6,rfl⟩:=hvs7;refine V.enter _ Tryz.func115 (Mem.startX hX hF) ?_;refine V.star (B:=O1 c b3 b5 b9 a deep s) ?_;show V _ _ _ _ _ _ (Mem Fz w [TV c s,blk b3 [.pointer (F ⟨c,0,O⟩)] 159,blk b5 [I J deep] 3,blk b9 [I J a] 3]) _;refine W ?_;refine R.new fun b4 _=>?_
 repeat refine W ?_
 refine R.cq (fun w' h'=>hL w' [v0,v1,v2,v3,v4,v5,v6] hT (B4.belowB hB hQ h'.1) (by omega) (by omega)) (fun G hG=>Hx.of hB hQ G hG) (fun _=>?_);iterate 6 refine W ?_
 refine V.any (fun w' h'=>JR h' Pk.hd) (fun q=>?_);obtain⟨nb2,L,vs2⟩:=q;show V _ _ _ _ _ _ (Mem Fz w [blk c [I J 0,L,.map (F nb2)] 162,MZ Value.string nb2 (Ce (Value.int .i64) r.1.names),An 40 6 L r.1.nodes.length (BE r.1.nodes vs2),star (FS 3 r.1.nodes vs2),pr (vs2.length=r.1.nodes.length/\r.1.nodes.length<=200),blk b4 [v0,v1,v2,v3,v4,v5,v6] 53,blk b3 [.pointer (F ⟨c,0,O⟩)] 159,blk b5 [I J deep] 3,blk b9 [I J a] 3]) _;refine V.prop (p:=vs2.length=r.1.nodes.length/\r.1.nodes.length<=200) fun hp=>?_;have har:a<r.1.nodes.length:=by omega
 refine V.know (p:=∃ g lc,L=Z (F ⟨g,0,O⟩) r.1.nodes.length lc) (fun w' h'=>(Co h' (List.Mem.tail _ (List.Mem.tail _ (List.Mem.head _)))).resolve_left (fun e=>by omega)) fun hL2=>?_;obtain⟨g,lc,rfl⟩:=hL2;obtain⟨p0,hp0⟩:∃ p0,vs2[a]? =F p0:=⟨_,List.getElem?_eq_getElem (by omega)⟩
 obtain⟨A1,A2,e1,e2⟩:=WW (it:=3) r.1.nodes vs2 a x p0 hp.1 hxa hp0;rw[e1];refine V.pre (S':=Mem Fz w [An 3 1 p0.2 x.kids.length (x.kids.map (I J)),star (A1++A2),blk c [I J 0,Z (F ⟨g,0,O⟩) r.1.nodes.length lc,.map (F nb2)] 162,MZ Value.string nb2 (Ce (Value.int .i64) r.1.names),An 40 6 (Z (F ⟨g,0,O⟩) r.1.nodes.length lc) r.1.nodes.length (BE r.1.nodes vs2),blk b3 [.pointer (F ⟨c,0,O⟩)] 159,blk b5 [I J deep] 3,blk b9 [I J a] 3]) ?_ (fun w' h'=>(Ss.1 (h'.pk (Pk.tl (Pk.tl (Pk.tl Pk.hd))))).sel);refine V.know (p:=∃ ia ic,p0.2=Z ia x.kids.length ic) (fun w' h'=>(Co h' (List.Mem.head _)).elim (fun⟨e,e0⟩=>⟨O,0,by rw[e,e0]⟩) (fun⟨g,c,e⟩=>⟨_,c,e⟩)) fun hpi=>?_;obtain⟨ia,ic,hpi⟩:=hpi;rw[hpi];refine W ?_;refine Zz.on (Mem Fz w [blk c [I J 0,Z (F ⟨g,0,O⟩) r.1.nodes.length lc,.map (F nb2)] 162,An 40 6 (Z (F ⟨g,0,O⟩) r.1.nodes.length lc) r.1.nodes.length (BE r.1.nodes vs2),blk b3 [.pointer (F ⟨c,0,O⟩)] 159,blk b9 [I J a] 3]) ?_
 repeat refine Wz ?_
 refine Zz.ix har ?_
 repeat refine Wz ?_
 have hdrop:(BE r.1.nodes vs2).drop (a*6+5)=p0.2::BE (r.1.nodes.drop (a+1)) (vs2.drop (a+1)):=by
  rw[<- List.drop_drop,JU r.1.nodes vs2 a x p0 hp.1 hxa hp0];rfl
 refine Zz.lw (v:=Z ia x.kids.length ic) ?_ ?_
 ·rw[hdrop,hpi];rfl
 repeat refine Wz ?_
 refine Zz.bs fun bn _=>?_;refine Zz.app elI (k:=x.kids.length) (m:=1) (xs:=x.kids.map (I J)) (news:=[I J r.2.1]) (fun w' h'=>(Cs.of_blk (h'.blk (List.Mem.head _))).add) (by omega) (fun ia2 ic2=>?_);refine Zz.off (fun w' h'=>h'.sel) ?_;refine R.ix har ?_
 repeat refine W ?_
 refine R.sw (S9 r.1.nodes vs2 a x p0 (Z ia2 (x.kids.length+1) ic2) r.2.1 hp.1 hxa hp0) ?_ (hp:=.inr (.inl ⟨rfl,by kernel_rfl⟩))
 repeat refine W ?_
 refine V.end fun w' h'=>?_;refine⟨(),rfl,Mem.toW ?_⟩;have hfin:Mem Fz w [An 3 1 (Z ia2 (x.kids.length+1) ic2) (x.kids.length+1) ((x.kids++[r.2.1]).map (I J)),star (A1++A2),blk c [I J 0,Z (F ⟨g,0,O⟩) r.1.nodes.length lc,.map (F nb2)] 162,MZ Value.string nb2 (Ce (Value.int .i64) r.1.names),An 40 6 (Z (F ⟨g,0,O⟩) r.1.nodes.length lc) r.1.nodes.length (BE (r.1.nodes.modify a fun n=>{n with kids:=n.kids++[r.2.1]}) (vs2.set a (p0.1,Z ia2 (x.kids.length+1) ic2))),blk b3 [.pointer (F ⟨c,0,O⟩)] 159,blk b5 [I J deep] 3,blk b9 [I J a] 3] w':=by
  rw[List.map_append];exact h'.sel
 have h2:=(Ss.2 hfin.sel:Mem Fz w (star (A1++An 3 1 (Z ia2 (x.kids.length+1) ic2) (x.kids.length+1) ((x.kids++[r.2.1]).map (I J))::A2)::[blk c [I J 0,Z (F ⟨g,0,O⟩) r.1.nodes.length lc,.map (F nb2)] 162,MZ Value.string nb2 (Ce (Value.int .i64) r.1.names),An 40 6 (Z (F ⟨g,0,O⟩) r.1.nodes.length lc) r.1.nodes.length (BE (r.1.nodes.modify a fun n=>{n with kids:=n.kids++[r.2.1]}) (vs2.set a (p0.1,Z ia2 (x.kids.length+1) ic2))),blk b3 [.pointer (F ⟨c,0,O⟩)] 159,blk b5 [I J deep] 3,blk b9 [I J a] 3]) w')
 rw[<- e2] at h2;have hml:(r.1.nodes.modify a fun n=>{n with kids:=n.kids++[r.2.1]}).length=r.1.nodes.length:=by simp
 have h3:=h2.pr (p:=(vs2.set a (p0.1,Z ia2 (x.kids.length+1) ic2)).length=(r.1.kid a r.2.1).nodes.length/\(r.1.kid a r.2.1).nodes.length<=200) ⟨by rw[List.length_set];unfold St.kid;rw[hml];exact hp.1,by unfold St.kid;rw[hml];exact hp.2⟩;have h4:=IJ (ct:=162) (nt:=40) (it:=3) (c:=c) (s:=r.1.kid a r.2.1) (Z0:=[blk b3 [.pointer (F ⟨c,0,O⟩)] 159,blk b5 [I J deep] 3,blk b9 [I J a] 3]) (nb2,Z (F ⟨g,0,O⟩) r.1.nodes.length lc,vs2.set a (p0.1,Z ia2 (x.kids.length+1) ic2)) (by
  show Mem Fz w [blk c _ _,MZ Value.string nb2 _,An _ 6 _ (r.1.nodes.modify a _).length _,star _,pr _,_,_,_] w';rw[hml];exact h3.sel)
 exact Mem.toStar (B:=O1 c b3 b5 b9 a deep (r.1.kid a r.2.1)) (A:=[]) h4.sel
end
section
structure C8 where
 kind:Int
 str:List UInt8
 at_:Int
deriving DecidableEq
def Eo (t:C8):List Value:=[I J t.kind,Q ⟨t.str.toArray⟩,I J t.at_]
end
section
set_option maxHeartbeats 4000000
set_option maxRecDepth 100000
def Hu (w:Y) (S:Nat->Prop) (A:Option Addr) (l:List C8):Prop:=∀ (j:Nat) (t:C8),l[j]? =F t->∃ b o,A=F ⟨b,o,O⟩/\S b/\Cs w b (o+j*3) (Eo t)
theorem Hu.to {w w':Y} {S S':Nat->Prop} {A:Option Addr} {l:List C8} (h:Hu w S A l) (hc:∀ b o v,S b->w.cell? ⟨b,o,O⟩=F v->w'.cell? ⟨b,o,O⟩=F v/\S' b):Hu w' S' A l:=fun j x hj=>by
 obtain⟨b,o,e,hb,hcs⟩:=h j x hj;exact⟨b,o,e,(hc b _ _ hb (hcs 0 _ rfl)).2,fun i v hv=>(hc b _ _ hb (hcs i v hv)).1⟩
theorem VN (S:Nat->Prop) (A:Option Addr) (c:Nat) (is:List Int) (x:Int) (w:Y) (h:Ja w S A is) (hn:is.length<=1000000):
  Calls Tryz.prog 298 #[Z A is.length c,I J x] w fun e w'=>e=.returned (I J (QX (fun y=>(x==y)) is))/\Below w.heap.size w w':=by
 refine V.enter _ Tryz.func298 (Mem.start (C:=A5) w) ?_
 repeat refine W ?_
 refine V.loop (fun k=>k<=is.length/\∀ (j:Nat) y,j<k->is[j]? =F y->(x==y)=false) (fun _=>Mem A5 w []) (fun k=>[(8,I J k),(7,I J is.length),(0,Z A is.length c),(1,I J x)]) (is.length - ·) 0 ⟨by omega,fun j y hj=>by omega⟩ (fun w h=>h) ⟨rfl,rfl,rfl,rfl,trivial⟩ ?_;rintro k ⟨hk,hne⟩
 repeat refine W ?_
 refine V.ifp (fun hlt=>?_) (fun hge=>?_)
 ·have hlt:k<is.length:=by omega
  obtain⟨y,hy⟩:∃ y,is[k]? =F y:=⟨_,List.getElem?_eq_getElem hlt⟩
  obtain⟨b,o,rfl,_,hc⟩:=h k y hy
  repeat refine W ?_
  refine R.ix hlt ?_;refine R.lo 0 hc ?_
  repeat refine W ?_
  refine V.if (fun he=>?_) (fun he=>?_)
  ·repeat refine W ?_
   refine V.end fun w' h'=>?_;exact⟨by rw[N6 hy he hne];rfl,h'.1.below⟩
  ·repeat refine W ?_
   have hne':∀ (j:Nat) z,j<k+1->is[j]? =F z->(x==z)=false:=fun j z hj hz=>by
    by_cases e:j=k
    ·subst e;rw[hy] at hz;cases hz;exact he
    ·exact hne j z (by omega) hz
   exact V.again (k+1) rfl ⟨hlt,hne'⟩
 ·repeat refine W ?_
  refine V.end fun w' h'=>?_;exact⟨by rw[Ly fun j y hy=>hne j y (by have:=(List.getElem?_eq_some_iff.1 hy).1;omega) hy];rfl,h'.1.below⟩
theorem OG (S:Nat->Prop) (A:Option Addr) (c:Nat) (is:List Int) (x:Int) (w:Y) (h:Ja w S A is) (hn:is.length<=1000000):
  Calls Tryz.prog 292 #[Z A is.length c,I J x] w fun e w'=>e=.returned (.bool (is.any fun y=>(x==y)))/\Below w.heap.size w w':=by
 refine V.enter _ Tryz.func292 (Mem.start (C:=A5) w) ?_
 repeat refine W ?_
 refine R.c (fun w' h'=>VN S A c is x w' (h.to fun b o v hb hv=>⟨h'.1.cell hv (fun e=>e),hb⟩) hn) ?_
 repeat refine W ?_
 refine V.end fun w' h'=>?_;exact⟨by rw[<- Ny];rfl,h'.1.below⟩
def Eg (l:List C8) (p:Nat) (ks:List Int):Bool:=match l[p]? with
 | some t=>ks.any fun y=>t.kind==y
 | none=>false
theorem JM (S S2:Nat->Prop) (r:Nat) (A K:Option Addr) (c kc:Nat) (l:List C8) (p:Nat) (ks:List Int) (w:Y) (hr:Cs w r 0 [Z A l.length c,I J p]) (hl:Hu w S A l) (hk:Ja w S2 K ks) (hn:ks.length<=1000000):
  Calls Tryz.prog 283 #[.pointer (F ⟨r,0,O⟩),Z K ks.length kc] w fun e w'=>e=.returned (.bool (Eg l p ks))/\Below w.heap.size w w':=by
 refine V.enter _ Tryz.func283 (Mem.start (C:=A5) w) ?_
 repeat refine W ?_
 refine R.lo 1 hr ?_
 repeat refine W ?_
 refine R.lo 1 hr ?_
 repeat refine W ?_
 refine R.lo 0 hr ?_
 repeat refine W ?_
 by_cases hlt:p<l.length
 ·obtain⟨t,ht⟩:∃ t,l[p]? =F t:=⟨_,List.getElem?_eq_getElem hlt⟩
  obtain⟨b,o,rfl,_,hc⟩:=hl p t ht;have hip:Eg l p ks=ks.any fun y=>t.kind==y:=by unfold Eg;rw[ht]
  rw[hip];refine R.yes 22 hlt ?_
  repeat refine W ?_
  refine R.lo 0 hr ?_
  repeat refine W ?_
  refine R.lo 1 hr ?_
  repeat refine W ?_
  refine R.ix hlt ?_
  repeat refine W ?_
  refine R.lo 0 hc ?_
  repeat refine W ?_
  refine R.c (fun w' h'=>OG S2 K kc ks t.kind w' (hk.to fun b o v hb hv=>⟨h'.1.cell hv (fun e=>e),hb⟩) hn) ?_
  repeat refine W ?_
  refine V.end fun w' h'=>?_;exact⟨rfl,h'.1.below⟩
 ·have hip:Eg l p ks=false:=by unfold Eg;rw[List.getElem?_eq_none (by omega)]
  rw[hip];refine R.no 22 hlt ?_
  repeat refine W ?_
  refine V.end fun w' h'=>?_;exact⟨rfl,h'.1.below⟩
def Cv (A:Option Addr) (c:Nat) (l:List C8) (r p:Nat):Aw:=blk r [Z A l.length c,I J p] 398
structure Ok (wB:Y) (A:Option Addr) (l:List C8):Prop where
 tks:Hu wB (fun b=>b<wB.heap.size) A l
 len:l.length<=1000000
 small:∀ t∈l,t.str.length<=1000000
 tabs:BU wB
theorem Ok.at {wB w w':Y} {Fz:Nat->Prop} {A:Option Addr} {l:List C8} (h:Ok wB A l) (hB:Below wB.heap.size wB w) (hQ:Hx wB Fz) (hx:B4 Fz w w'):Hu w' (fun b=>b<wB.heap.size) A l:=h.tks.to fun b o v hb hv=>⟨cell_below hv (B4.belowB hB hQ hx),hb⟩
theorem Is {wB:Y} {A:Option Addr} {c:Nat} {l:List C8} (hP:Ok wB A l) (r p:Nat) (k:Int) (w:Y) (hB:Below wB.heap.size wB w) (hp:p<=l.length):
  Dm Tryz.prog 294 #[.pointer (F ⟨r,0,O⟩),I J k] w (Cv A c l r p) (Hx wB) (fun _:Unit=>.bool (Eg l p [k])) (fun _=>Cv A c l r (if Eg l p [k] then p+1 else p)):=by
 intro Fz hX hF hQ;have hlen:=hP.len;refine V.enter _ Tryz.func294 (Mem.startX hX hF) ?_;unfold Cv
 repeat refine W ?_
 refine R.bs (m:=1) (fun bk hb=>?_);refine R.c (fun w' h'=>JM (fun b=>b<wB.heap.size) (fun _=>True) r A (F ⟨bk,0,O⟩) c 1 l p [k] w' (Cs.of_blk (h'.blk (List.Mem.tail _ (List.Mem.head _)))) (hP.at hB hQ h'.1) (fun j i hj=>by
  match j,hj with
  | 0,hj=>cases hj;exact⟨bk,0,rfl,trivial,Cs.of_blk (h'.blk (List.Mem.head _))⟩) (by simp)) ?_
 repeat refine W ?_
 refine V.if (fun he=>?_) (fun he=>?_)
 ·repeat refine W ?_
  refine V.end fun w' h'=>?_;refine⟨(),rfl,?_⟩;rw[he,if_pos rfl];exact Mem.toW (h'.sel:Mem Fz w [blk r _ _] w')
 ·repeat refine W ?_
  refine V.end fun w' h'=>?_;refine⟨(),rfl,?_⟩;rw[he,if_neg (by simp)];exact Mem.toW (h'.sel:Mem Fz w [blk r _ _] w')
end
section
section
variable {P:Program} {n:Nat} {ds:List Deferred} {d:Bool} {ops:Array Oper} {K:Act->Y->Prop} {i:Nat} {T pl pend:List Nat} {l:Env}
 {t:Nat} {ty:TypeId} {ps:String} {af:Array Edge} {gd:Option (Nat×Bool)} {C:Nat->Prop} {w0:Y} {A A' Az:List Aw}
theorem Zz.st {x y:Operand} {tt bt:TypeId} {b o:Nat} {v:Value} {cs cs':List Value} (h:Rz P n ds d ops K T pl pend (Mem C w0 Az) (Mem C w0 A') l) (ho:AQ ops.toList i=F ⟨O,.store tt x y,ty,ps,af,gd⟩:=by rfl) (hx:ev l x=F (.pointer (F ⟨b,o,O⟩)):=by rfl) (hy:ev l y=F v:=by rfl) (hr:E5 (blk b cs bt) (blk b cs' bt) A A':=by(repeat (first | exact E5.hd | apply E5.tl));first | done | fail) (hv:Bo cs o v.cells.toList=F cs':=by rfl) (ho1:v.cells.toList.all Value.oneCell'=true:=by rfl) (hs:∀ w,(sizeOf tt).run P w=.ok v.cells.size w:=by intro w;simp;(try rfl);first | done | fail) (hz:∀ w,Mem C w0 A' w->Mem C w0 Az w:=by exact fun w h=>h.sel) (hg:D0 ops.toList l gd=F true:=by rfl):Rz P n ds d ops K T (i::pl) pend (Mem C w0 Az) (Mem C w0 A) l:=
 Zz.eff (ι:=Unit) (Si:=fun _=>Mem C w0 A') (li:=fun _=>l) ho hg rfl (fun a w K' ha hd hw hk=>by
  obtain⟨G,⟨g1,g2⟩,g3,g4⟩:=hw.rep hr;obtain⟨w',k1,k2,k3,k4⟩:=Hp (P:=P) v.cells.toList 0 cs cs' w g2 hv ho1;unfold FI;have:(execOp a.eval ⟨O,.store tt x y,ty,ps,af,gd⟩).run P w=.ok .skip w':=by
   simp only[execOp,ha.ev hx,ha.ev hy,Sem.run_bind,Instr.storeAt,Instr.sureAddr,storeVar]
   simp[Sem.run_bind,hs w,k1,pure,Sem.run]
  rw[this];exact hk () undef w' (g4 G w' ⟨g1,k2⟩ (k3.sub (fun k _ e=>by subst e;exact g1)) (fun k hk=>⟨by rw[k4];exact(g3 k hk).1,.inl hk⟩)) ha) (fun _ w h=>hz w h) (fun _=>h)
end
end
section
section
variable {P:Program} {Fz:Fence} {Qr:Exit->Act->Y->Prop} {n:Nat} {ds:List Deferred} {ops:Array Oper} {K:Act->Y->Prop} {pl pend:List Nat} {l:Env} {Zf S:Y->Prop}
theorem V.regT [Dr S] {k k':List KL} {id:Nat} (T pl:List Nat) (Zf:Y->Prop) (hr:Rz P n ds true ops (td P Fz Qr O k') T pl [] Zf S l) (hF:Ng Fz:=by first | exact .inl rfl | exact .inr ⟨_,rfl⟩) (hm:P.follows .mixedOrders=true:=by kernel_rfl) (h:IP 400 O k=.reg id ops true k':=by rfl) (hok:(Md P true ops n T pl&&okS true ops (pl++T)&&Gc ops)=true:=by kernel_rfl):V P Fz Qr n ds k S l:=V.at h fun a w ha hw=>by
 rw[Bool.and_eq_true,Bool.and_eq_true] at hok;obtain⟨⟨h1,h2⟩,h3⟩:=hok;have hr:=hr h1;show(Code.region id ops true).wpIn Fz 0 P _ a w;dsimp only at hr;obtain⟨hl,hn⟩:=Xy h2;have:=hr (fun _ _=>True) (fun _ hj=>by cases hj) a w.drew ha (Dr.drew w hw);rw[hl,hn] at this;exact wpIn_region_any hm (KS hF h3 (fun a w h=>h) _ _ _ _ this)
def MT (P:Program) (ops:Array Oper) (n i j:Nat) (T T1 T2 R1 R2:List Nat):Bool:=
 !(Region.ready .any ops (lst ops T)).isEmpty&&(Region.ready .any ops (lst ops T)).all (fun k=>k==i||k==j)&&(lst ops T).setIfInBounds i true==lst ops (T1++R1)&&(lst ops T).setIfInBounds j true==lst ops (T2++R2)&&
  T.length==(T1++R1).length+1&&T.length==(T2++R2).length+1&&Md P true ops n R1 T1&&Md P true ops n R2 T2&&(match ops[i]? with | some o=>JO n o | none=>false)&&(match ops[j]? with | some o=>JO n o | none=>false)
theorem Zz.fork {α β:Type} {i j:Nat} {oi oj:Oper} {T T1 T2 R1 R2:List Nat} {S1:α->Y->Prop} {l1:α->Env} {S2:β->Y->Prop} {l2:β->Env} (hi:AQ ops.toList i=F oi) (hj:AQ ops.toList j=F oj) (hgi:oi.guard=O) (hgj:oj.guard=O) (hck:MT P ops n i j T T1 T2 R1 R2=true)
  (e1:∀ a w (K':Act->Y->Prop),Kn n ds l a->(∀ v,Kn n ds (addl l oi.dst v) (a.put oi.dst v))->S w->(∀ x v w',S1 x w'->Kn n ds (l1 x) (a.put oi.dst v)->K' (a.put oi.dst v) w')->FI P oi a w K')
  (e2:∀ a w (K':Act->Y->Prop),Kn n ds l a->(∀ v,Kn n ds (addl l oj.dst v) (a.put oj.dst v))->S w->(∀ x v w',S2 x w'->Kn n ds (l2 x) (a.put oj.dst v)->K' (a.put oj.dst v) w')->FI P oj a w K')
  (p1:∀ x w,S1 x w->Zf w) (p2:∀ x w,S2 x w->Zf w) (h1:∀ x,Rz P n ds true ops K R1 T1 pend Zf (S1 x) (l1 x)) (h2:∀ x,Rz P n ds true ops K R2 T2 pend Zf (S2 x) (l2 x)):Rz P n ds true ops K T [] pend Zf S l:=by
 intro _;rw[EV,Array.getElem?_toList] at hi hj;unfold MT at hck;rw[hi,hj] at hck;simp only[Bool.and_eq_true,Bool.not_eq_true',List.all_eq_true,Bool.or_eq_true,beq_iff_eq] at hck;obtain⟨⟨⟨⟨⟨⟨⟨⟨⟨c3,c4⟩,c5⟩,c6⟩,c7⟩,c8⟩,c9⟩,ca⟩,cb⟩,cc⟩:=hck;have h1:=fun x=>h1 x c9;have h2:=fun x=>h2 x ca;dsimp only at h1 h2 |-;intro Rs hRs a w ha hw;have wi:∀ f,Region.wanted oi f=true:=fun f=>by unfold Region.wanted;rw[hgi]
 have wj:∀ f,Region.wanted oj f=true:=fun f=>by unfold Region.wanted;rw[hgj]
 show E9 P .any ops K (Tm P ops Rs pend) T.length (lst ops T) a w;rw[c7];refine⟨fun e=>(by rw[e] at c3;cases c3),fun k hk=>?_⟩;rcases c4 k hk with e | e
 ·subst e;unfold Ms;rw[hi];dsimp only
  rw[if_pos (wi _)];refine e1 a w _ ha (ha.addl cb) hw (fun x v w' hs hk=>?_);have:=h1 x Rs hRs _ w' hk hs;rw[c5];exact⟨fun k hk _=>hRs k hk w' (p1 x w' hs),this⟩
 ·subst e;unfold Ms;rw[hj];dsimp only
  rw[if_pos (wj _)];refine e2 a w _ ha (ha.addl cc) hw (fun x v w' hs hk=>?_);have:=h2 x Rs hRs _ w' hk hs;rw[c6,show(T1++R1).length=(T2++R2).length by omega];exact⟨fun k hk _=>hRs k hk w' (p2 x w' hs),this⟩
theorem Zz.last {ι:Type} {d:Bool} {T pl:List Nat} {k:List KL} {Si:ι->Y->Prop} {li:ι->Env} (h:(∀ x,V P Fz Qr n ds k (Si x) (li x))->Rz P n ds d ops (td P Fz Qr O k) T pl pend Zf S l) (hV:∀ x,V P Fz Qr n ds k (Si x) (li x)):Rz P n ds d ops (td P Fz Qr O k) T pl pend Zf S l:=h hV
theorem V.less {k:List KL} {l l':Env} {S S':Y->Prop} (h:V P Fz Qr n ds k S' l') (hs:∀ w,S w->S' w) (hl:V4 l l':=by repeat (first | exact trivial | refine⟨rfl,?_⟩)):V P Fz Qr n ds k S l:=fun a w ha hw=>h a w (ha.sub hl.lk) (hs w hw)
end
section
variable {P:Program} {n:Nat} {ds:List Deferred} {ops:Array Oper} {K:Act->Y->Prop} {T T1 T2 pend:List Nat} {l:Env} {C:Nat->Prop} {w0:Y} {A Az:List Aw}
theorem Zz.nc {ι:Type} (i j:Nat) {s t:Nat} {op:Op} {ty ty2:TypeId} {ps ps2:String} {af af2:Array Edge} {cs:List Value} {bt:TypeId} {v:ι->Value} {X:ι->List Aw} {f:FuncId} {fn:Operand} {fs cc:Array Value} {args:List Operand} {ts:Array TypeId} {vs aa:List Value}
  (hc:∀ w,Mem C w0 A w->Calls P f aa.toArray w fun e w'=>∃ x,e=.returned (v x)/\Fr w w' (X x)) (hv:∀ ρ w,(execOp ρ ⟨F s,op,ty,ps,af,O⟩).run P w=.ok (.value (.pointer (F ⟨w.heap.size,0,O⟩))) (w.alloc (.cells cs.toArray bt)))
  (h1:∀ b,w0.heap.size<=b->Rz P n ds true ops K [] T1 pend (Mem C w0 Az) (Mem C w0 (blk b cs bt::A)) ((s,.pointer (F ⟨b,0,O⟩))::l))
  (h2:∀ x,Rz P n ds true ops K [] T2 pend (Mem C w0 Az) (Mem C w0 (X x++A)) ((t,v x)::l)) (hz:∀ w,Mem C w0 A w->Mem C w0 Az w:=by exact fun w h=>h.sel)
  (hi:AQ ops.toList i=F ⟨F s,op,ty,ps,af,O⟩:=by rfl) (hj:AQ ops.toList j=F ⟨F t,.call {callee:=.value fn,args:=args.toArray,argTypes:=ts},ty2,ps2,af2,O⟩:=by rfl)
  (hf:ev l fn=F (.func (.func f) fs cc):=by rfl) (hes:evs l args=F vs:=by rfl) (he:fs.toList++(vs++cc.toList)=aa:=by rfl) (hr:∀ args w,(callFunc f args).run P w=.ok (.enter f args) w:=by intro args w;simp;first | done | fail)
  (hck:MT P ops n i j T T1 T2 [] []=true:=by kernel_rfl):Rz P n ds true ops K T [] pend (Mem C w0 Az) (Mem C w0 A) l:=
 Zz.fork (α:={b:Nat // w0.heap.size<=b}) (S1:=fun b=>Mem C w0 (blk b.1 cs bt::A)) (l1:=fun b=>(s,.pointer (F ⟨b.1,0,O⟩))::l) (S2:=fun x=>Mem C w0 (X x++A)) (l2:=fun x=>(t,v x)::l) hi hj rfl rfl hck
  (fun a w K' ha hd hw hk=>by
   unfold FI;rw[hv a.eval w];exact hk ⟨w.heap.size,hw.1.size⟩ _ _ (hw.alloc cs bt) (hd _))
  (fun a w K' ha hd hw hk=>by
   unfold FI;rw[FQ ha hf hes hr he];exact(hc w hw).mono (by rintro e w' ⟨x,rfl,hm⟩;exact⟨_,rfl,hk x _ _ (hw.fr hm) (hd _)⟩))
  (fun x w h=>hz w (h.sub (List.sublist_cons_self ..))) (fun x w h=>hz w (h.sub (List.sublist_append_right ..))) (fun x=>h1 x.1 x.2) h2
end
end
end Go.Proofs.YtdpppepmkeinaaaGreatDoor
