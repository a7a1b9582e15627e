/- What is proved: a part of the walk of the program and of its plain laws; no condition beside those that each theorem names. -/
import Derived.Test.YtdpppepmkeinaaaGreatDoorYy
import Derived.Test.YtdpppepmkeinaaaGreatDoorYn
import Derived.Test.YtdpppepmkeinaaaGreatDoorYx
import Derived.Test.YtdpppepmkeinaaaGreatDoorYw
import Derived.Test.YtdpppepmkeinaaaGreatDoorYa
namespace Go.Proofs.YtdpppepmkeinaaaGreatDoor
open Go Go.RowKit Go.Lib
open Go.Value renaming int->I,string->Q,slice->Z
open Go.IntKind renaming i64->J
open Option renaming none->O,some->F
open _root_.Go renaming World->Y
set_option linter.unusedSimpArgs false
set_option linter.unusedVariables false
set_option linter.unusedSectionVars false
section
set_option maxHeartbeats 8000000
set_option maxRecDepth 100000
theorem Is (tx:Sc->List UInt8) (ns:List Nd) (c:List Int):(H6 tx ns c).length=ns.length:=by unfold H6 Bc;rw[Mk,List.length_map]
theorem PX {tx:Sc->List UInt8} {ns:List Nd} {c:List Int} (hn:ns.length<=1000):∀ n∈H6 tx ns c,0<=n/\n<=1000000:=fun n h=>by
 have:=P8 h;unfold Bc at this;rw[List.length_map] at this;omega
theorem UX (tx:Sc->List UInt8) (ns:List Nd) (c:List Int):H5 tx ns c<=ns.length:=by
 have:=FQ (Bc tx ns c) [];unfold Bc at this;rw[List.length_map,List.length_nil] at this;unfold H5 Bc;omega
theorem TC (wB:Y) (tx:Sc->List UInt8) (pb:Nat) (A CA:Option Addr) (c cc:Nat) (g:Gf) (w:Y) (hP:Y0 wB tx g.nodes g.nodes.length) (h0:0<g.nodes.length) (hB:Below wB.heap.size wB w):
  BT Tryz.prog 58 #[.pointer (F ⟨pb,0,O⟩)] w (Mv wB pb A CA c cc g (MW g.nodes.length)) (FG wB) (fun _:Unit=>Z CA g.nodes.length cc) (fun _=>Mv wB pb A CA c cc g (LP tx g.nodes)):=by
 intro Fz hX hF hQ;have hlen:=hP.len;have hR:=fun(cls:List Int) (w':Y) (hc:cls.length=g.nodes.length) (hr:∀ n∈cls,0<=n/\n<=1000000) (hB':Below wB.heap.size wB w')=>W6 wB tx pb A CA c cc g cls w' (by rw[hc];exact hP) hc hr (by omega) hB';have hz:(MW g.nodes.length).length=g.nodes.length:=by unfold MW;simp
 have hzr:∀ n∈MW g.nodes.length,(0:Int)<=n/\n<=1000000:=fun n hn=>by unfold MW at hn;rw[(List.mem_replicate.1 hn).2];omega
 refine V.enter _ Tryz.func58 (Mem.startX hX hF) ?_
 repeat refine W ?_
 refine R.cw (fun w' h'=>hR (MW g.nodes.length) w' hz hzr (AI.belowB hB hQ h'.1)) (fun _=>?_)
 repeat refine W ?_
 refine V.loop (ι:=Nat×Nat×Nat×List Int) (fun p=>g.nodes.length+1<=p.1+p.2.1/\p.2.2.1<=g.nodes.length/\p.2.2.2.length=g.nodes.length/\(∀ n∈p.2.2.2,0<=n/\n<=1000000)/\On tx g.nodes p.1 p.2.1 p.2.2.1 p.2.2.2=LP tx g.nodes) (fun p=>Mem Fz w [Mv wB pb A CA c cc g p.2.2.2])
  (fun p=>[(4,I J p.2.1),(5,I J p.2.2.1),(3,.func (.func 85) #[.pointer (F ⟨pb,0,O⟩)] #[]),(0,.pointer (F ⟨pb,0,O⟩))]) (fun p=>p.1) (g.nodes.length+1,0,H5 tx g.nodes (MW g.nodes.length),H6 tx g.nodes (MW g.nodes.length)) ⟨by omega,UX ..,Is ..,PX hlen,rfl⟩ (fun w h=>h) ⟨rfl,rfl,rfl,rfl,trivial⟩ ?_
 rintro⟨f,n,more,cls⟩ ⟨hf,hm,hcl,hcr,hr⟩;dsimp only at hf hm hcl hcr hr
 repeat refine W ?_
 refine V.ifp (fun hlt=>?_) (fun hge=>?_)
 ·have hlt:n<more:=by omega
  obtain⟨f',rfl⟩:∃ f',f=f'+1:=⟨f - 1,by omega⟩
  unfold On at hr;rw[if_pos hlt] at hr
  repeat refine W ?_
  refine R.cw (fun w' h'=>hR cls w' hcl hcr (AI.belowB hB hQ h'.1)) (fun _=>?_)
  repeat refine W ?_
  exact V.again (f',more,H5 tx g.nodes cls,H6 tx g.nodes cls) rfl ⟨by dsimp only;omega,UX ..,Is ..,PX hlen,hr⟩
 ·have hge:¬n<more:=by omega
  have hcr2:cls=LP tx g.nodes:=by
   rw[<- hr];cases f with
   | zero=>rfl
   | succ f=>unfold On;rw[if_neg hge]
  refine V.star ?_;show V _ _ _ _ _ _ (Mem Fz w [blk pb _ _,Af _ _ _ _ _,grW _ _ _]) _
  repeat refine W ?_
  refine V.end fun w' h'=>?_;refine⟨(),by rw[hcl];rfl,Mem.toW ?_⟩;rw[<- hcr2];exact Mem.toStar (B:=Ut wB pb A CA c cc g cls) (A:=[]) h'.sel
end
section
set_option maxHeartbeats 2000000
set_option maxRecDepth 100000
theorem Adr (root:Int) (A:Option Addr) (n c:Nat) (w:Y) (hn:n<=1000):
  Calls Tryz.prog 56 #[.agg #[I J root,Z A n c]] w fun e w'=>∃ q:Nat×Nat,e=.returned (.pointer (F ⟨q.1,0,O⟩))/\Fr w w' [blk q.1 [I J root,Z A n c,Z (F ⟨q.2,0,O⟩) n n] 182,Af 3 1 (Z (F ⟨q.2,0,O⟩) n n) n ((MW n).map (I J))]:=by
 refine V.enter _ Tryz.func56 (Mem.start (C:=Ao) w) ?_;refine W ?_;refine R.new fun b1 h1=>?_
 repeat refine W ?_
 refine R.bo (m:=n) (sz:=1) (cs:=List.replicate n (I J 0)) (bt:=3) (by simp) (by omega) (fun nb hnb=>?_) (hv:=fun ρ w h=>?_)
 ·repeat refine W ?_
  refine R.new fun b2 h2=>?_
  repeat refine W ?_
  refine V.end fun w' h'=>?_;refine⟨(b2,nb),rfl,?_⟩;have e:(MW n).map (Value.int .i64)=List.replicate n (I J 0):=by unfold MW;simp
  rw[e];exact(h'.sel:Mem Ao w [_,_] w').to_fr
 ·simp only[Op.operands,EV,List.map_cons,List.map_nil] at h;simp[execOp,h,mkI _ _ (show n<=1000000 by omega)]
end
section
set_option maxHeartbeats 2000000
set_option maxRecDepth 100000
def NdP (w:Y) (S:Nat->Prop) (x:Nd) (p:Value×Value):Prop:=∃ (KA:Option Addr) (kc:Nat) (IA:Option Addr) (ic:Nat),p=(Z KA x.keys.length kc,Z IA x.kids.length ic)/\Fk w S KA x.keys/\GT w S IA x.kids
theorem CL.cells {w:Y} {S:Nat->Prop} {b:Nat}:∀ {ns:List Nd} {o:Nat},CL w S (F ⟨b,o,O⟩) ns->∃ vs:List (Value×Value),vs.length=ns.length/\Cs w b o (AU ns vs)/\∀ (j:Nat) x p,ns[j]? =F x->vs[j]? =F p->NdP w S x p
 | [],o,h=>⟨[],rfl,(fun j v hv=>by cases hv),(fun j x p hx=>by cases hx)⟩
 | y::r,o,h=>by
  obtain⟨b',o',KA,kc,IA,ic,e,_,hc,hk,hi⟩:=h 0 y rfl;cases e
  have hr:CL w S (F ⟨b,o+6,O⟩) r:=fun j x hj=>by
   obtain⟨b',o',KA,kc,IA,ic,e,hb,hc,hk,hi⟩:=h (j+1) x hj;cases e
   exact⟨b,o+6,KA,kc,IA,ic,rfl,hb,by rwa [show o+6+j*6=o+(j+1)*6 by omega],hk,hi⟩
  obtain⟨vs,h1,h2,h3⟩:=CL.cells hr;refine⟨(Z KA y.keys.length kc,Z IA y.kids.length ic)::vs,by simp[h1],fun j v hv=>?_,fun j x p hx hp=>?_⟩
  ·rw[AU] at hv;by_cases hj:j<6
   ·rw[List.getElem?_append_left (by rw[G9];exact hj)] at hv;have:=hc j v hv
    rwa [Nat.zero_mul,Nat.add_zero] at this
   ·rw[List.getElem?_append_right (by rw[G9];omega),G9] at hv;have:=h2 (j - 6) v hv
    rwa [show o+6+(j - 6)=o+j by omega] at this
  ·cases j with
   | zero=>cases hx;cases hp;exact⟨KA,kc,IA,ic,rfl,hk,hi⟩
   | succ j=>exact h3 j x p hx hp
theorem RZ {w:Y} {S:Nat->Prop}:∀ (ns:List Nd) (vs:List (Value×Value)),vs.length=ns.length->(∀ (j:Nat) x p,ns[j]? =F x->vs[j]? =F p->NdP w S x p)->(AU ns vs).all Value.oneCell'=true
 | [],[],_,_=>rfl
 | y::r,q::t,h,hp=>by
  obtain⟨KA,kc,IA,ic,e,_⟩:=hp 0 y q rfl rfl;rw[AU,List.all_append,RZ r t (by simpa using h) (fun j x p hx hpp=>hp (j+1) x p hx hpp),e];rfl
 | [],_::_,h,_=>by cases h
 | _::_,[],h,_=>by cases h
theorem TD (b o c:Nat) (ns:List Nd) (vs:List (Value×Value)) (w:Y) (hl:vs.length=ns.length) (h:Cs w b o (AU ns vs)) (h1:(AU ns vs).all Value.oneCell'=true) (hn:ns.length<=1000000):
  Calls Tryz.prog 83 #[Z (F ⟨b,o,O⟩) ns.length c] w fun e w'=>∃ v,e=.returned v/\Fr w w' [Af 40 6 v ns.length (AU ns vs)]:=by
 refine V.enter _ Tryz.func83 (Mem.start (C:=Ao) w) ?_
 repeat refine W ?_
 refine R.bo (m:=0) (sz:=6) (cs:=[]) rfl (by omega) fun b2 hb=>?_
 repeat refine W ?_
 refine R.app elN (k:=0) (m:=ns.length) (xs:=[]) (news:=AU ns vs) (fun w' h'=>(h'.1.cs h (fun e=>e)).add) (by omega) (fun a c=>?_) (hl:=PJ ns vs hl) (h1:=h1)
 repeat refine W ?_
 refine V.end fun w' h'=>?_;rw[Nat.zero_add,List.nil_append] at h';exact⟨_,rfl,(h'.sel:Mem Ao w [_] w').to_fr⟩
end
section
set_option maxRecDepth 100000
def kdOw (it:TypeId):List Nd->List (Value×Value)->List Aj
 | x::r,p::q=>Af it 1 p.2 x.kids.length (x.kids.map (I J))::kdOw it r q
 | _,_=>[]
theorem RK {it:TypeId} {w:Y}:∀ {ns:List Nd} {vs:List (Value×Value)} {j:Nat} {x:Nd} {p:Value×Value} {G:Nat->Prop},Bm (kdOw it ns vs) w G->ns[j]? =F x->vs[j]? =F p->∃ Fz,(∀ b,Fz b->G b)/\(isA p.2 x.kids).is Fz w
 | y::r,q::t,0,x,p,G,h,hx,hp=>by
  cases hx;cases hp
  obtain⟨Fz,h1,h2,_⟩:=h;exact⟨Fz,h2,Af.is' h1 rfl⟩
 | y::r,q::t,j+1,x,p,G,h,hx,hp=>by
  obtain⟨Fz,h1,h2,h3⟩:=h;obtain⟨F4,b1,b2⟩:=RK h3 (j:=j) hx hp;exact⟨F4,fun b hb=>(b1 b hb).1,b2⟩
 | [],_,j,x,p,G,h,hx,hp=>by cases hx
 | _::_,[],j,x,p,G,h,hx,hp=>by cases hp
theorem R0 {it:TypeId}:∀ (ns:List Nd) (vs:List (Value×Value)) (x:Nd) (p:Value×Value),vs.length=ns.length->kdOw it (ns++[x]) (vs++[p])=kdOw it ns vs++[Af it 1 p.2 x.kids.length (x.kids.map (I J))]
 | [],[],x,p,_=>by simp[kdOw]
 | y::r,q::t,x,p,h=>by
  have h1:=R0 (it:=it) r t x p (by simpa using h);simp only[List.cons_append,kdOw,h1]
 | [],_::_,x,p,h=>by cases h
 | _::_,[],x,p,h=>by cases h
theorem WP {nt it:TypeId} {wB w0 w:Y} {Z0:List Aj} {L:Value} {na ms:List Nd} {qs us:List (Value×Value)} (root:Int) (hq:qs.length=na.length) (hu:us.length=ms.length)
  (ha:∀ (j:Nat) x p,na[j]? =F x->qs[j]? =F p->NdP wB (fun b=>b<wB.heap.size) x p) (hm:∀ (j:Nat) x p,ms[j]? =F x->us[j]? =F p->∃ (KA:Option Addr) (kc:Nat),p.1=Z KA x.keys.length kc/\Fk wB (fun b=>b<wB.heap.size) KA x.keys)
  (h:Mem Ao w0 (Af nt 6 L (na++ms).length (AU (na++ms) (qs++us))::star (kdOw it ms us)::Z0) w) (h0:0<(na++ms).length):
  ∃ (g c:Nat),L=Z (F ⟨g,0,O⟩) (na++ms).length c/\Mem Ao w0 (grW wB (Eh (F ⟨g,0,O⟩) c ⟨root,na++ms⟩) ⟨root,na++ms⟩::Z0) w:=by
 have hsh:=AL h (List.Mem.head _);obtain⟨g,c,rfl⟩:∃ g c,L=Z (F ⟨g,0,O⟩) (na++ms).length c:=hsh.resolve_left (fun e=>by omega);refine⟨g,c,rfl,?_⟩;have h9:=Mem.toStar (B:=[Af nt 6 _ (na++ms).length (AU (na++ms) (qs++us)),star (kdOw it ms us)]) h;refine⟨h9.1,h9.2.as fun Fz w hs=>?_⟩;clear h9 h hsh;obtain⟨F1,h1,h2,F2,h3,h4,_⟩:=hs;have hl:(qs++us).length=(na++ms).length:=by rw[List.length_append,List.length_append,hq,hu]
 refine⟨_,c,rfl,fun j x hj=>?_⟩;dsimp only at hj;obtain⟨p,hp⟩:∃ p,(qs++us)[j]? =F p:=⟨_,List.getElem?_eq_getElem (by rw[hl];exact(List.getElem?_eq_some_iff.1 hj).1)⟩
 have hc:=(Af.cs h1).drop (j*6);rw[IQ _ _ j x p hl hj hp] at hc;have hcc:Cs w g (0+j*6) (NP x p.1 p.2):=fun i v hv=>hc i v (by rw[List.getElem?_append_left (List.getElem?_eq_some_iff.1 hv).1];exact hv);have hF1:Fz g:=h2 g (h1.2 g rfl);by_cases hjl:j<na.length
 ·rw[List.getElem?_append_left hjl] at hj;rw[List.getElem?_append_left (by omega)] at hp;obtain⟨KA,kc,IA,ic,rfl,hk,hi⟩:=ha j x p hj hp;exact⟨g,0,KA,kc,IA,ic,rfl,hF1,hcc,.inr hk,.inr hi⟩
 ·rw[List.getElem?_append_right (by omega)] at hj;rw[List.getElem?_append_right (by omega),hq] at hp;obtain⟨KA,kc,e,hk⟩:=hm _ x p hj hp;obtain⟨F4,b1,IA,ic,e2,hi⟩:=RK (show Bm (kdOw it ms us) w F2 from h3) hj hp;rw[e,e2] at hcc;exact⟨g,0,KA,kc,IA,ic,rfl,hF1,hcc,.inr hk,.inl (hi.to fun b o u hb hu=>⟨hu,(h4 b (b1 b hb)).1⟩)⟩
end
section
set_option maxHeartbeats 8000000
set_option maxRecDepth 100000
theorem Ads (b o c:Nat) (ns:List Nd) (vs:List (Value×Value)) (w:Y) (hl:vs.length=ns.length) (h:Cs w b o (AU ns vs)) (h1:(AU ns vs).all Value.oneCell'=true) (hn:ns.length<=1000000):
  Calls Tryz.prog 83 #[Z (F ⟨b,o,O⟩) ns.length c] w fun e w'=>∃ q:Option Addr×Nat,e=.returned (Z q.1 ns.length q.2)/\Fr w w' [Af 40 6 (Z q.1 ns.length q.2) ns.length (AU ns vs)]:=
 (TD b o c ns vs w hl h h1 hn).mono fun e w' ⟨v,he,hf⟩=>by
  have hf2:=hf;obtain⟨_,Fz,⟨⟨_,hs⟩,_⟩,_⟩:=hf2;rcases hs with ⟨e1,e0⟩ | ⟨g,cap,cur,e1,_⟩
  ·subst e1;exact⟨(O,0),by rw[he,e0],by rw[e0];rw[e0] at hf;exact hf⟩
  ·subst e1;exact⟨(_,cap),he,hf⟩
theorem TZ (a b:Gf) (A B:Option Addr) (c c2:Nat) (wB w:Y) (hW:Below wB.heap.size wB w) (hA0:CL wB (fun k=>k<wB.heap.size) A a.nodes) (hB0:CL wB (fun k=>k<wB.heap.size) B b.nodes) (ha0:0<a.nodes.length) (hn:a.nodes.length<=1000/\b.nodes.length<=1000) (hk:∀ x∈b.nodes,x.kids.length<=40000/\∀ n∈x.kids,-1000000<=n/\n<=1000000):
  Calls Tryz.prog 57 #[Eh A c a,Eh B c2 b] w fun e w'=>∃ (q:Nat×Nat),e=.returned (Eh (F ⟨q.1,0,O⟩) q.2 ⟨a.root,BJ a.nodes b.nodes⟩)/\Fr w w' [grW wB (Eh (F ⟨q.1,0,O⟩) q.2 ⟨a.root,BJ a.nodes b.nodes⟩) ⟨a.root,BJ a.nodes b.nodes⟩]:=by
 have hst:∀ b o v,b<wB.heap.size->wB.cell? ⟨b,o,O⟩=F v->w.cell? ⟨b,o,O⟩=F v/\b<w.heap.size:=fun b o v hb hv=>⟨cell_below hv hW,Nat.lt_of_lt_of_le hb hW.size⟩
 have hA:=hA0.to hst;have hB:=hB0.to hst;obtain⟨x0,hx0⟩:∃ x0,a.nodes[0]? =F x0:=⟨_,List.getElem?_eq_getElem ha0⟩
 obtain⟨ab,ao,_,_,_,_,rfl,_⟩:=hA 0 x0 hx0;obtain⟨qs,hq1,hq20,hq3⟩:=hA0.cells;have hq2:Cs w ab ao (AU a.nodes qs):=fun j u hj=>cell_below (hq20 j u hj) hW;have hq4:=RZ a.nodes qs hq1 hq3;refine V.enter _ Tryz.func57 (Mem.start (C:=Ao) w) ?_;refine W ?_;refine R.new fun b2 h2=>?_;refine R.new fun b3 h3=>?_;refine R.new fun b4 h4=>?_;refine R.z ?_;refine V.regT [6,4,5,7] [0,1,2,3] (Mem Ao w [blk b2 [I J a.root,Z (F ⟨ab,ao,O⟩) a.nodes.length c] 26]) ?_;iterate 4 refine Wz ?_
 have hcl:=fun w' (h':AI Ao w w')=>Ads ab ao c a.nodes qs w' hq1 (h'.cs hq2 fun e=>e) hq4 (by omega);refine Zz.last (ι:=(Option Addr×Nat)×Nat) (Si:=fun x=>Mem Ao w [Af 40 6 (Z x.1.1 a.nodes.length x.1.2) a.nodes.length (AU a.nodes qs),blk x.2 [I J a.root,Z x.1.1 a.nodes.length x.1.2] 26,blk b4 [I J 0,Z O 0 0] 26,blk b3 [I J b.root,Z B b.nodes.length c2] 26,blk b2 [I J a.root,Z (F ⟨ab,ao,O⟩) a.nodes.length c] 26])
  (li:=fun x=>[(5,.pointer (F ⟨x.2,0,O⟩)),(2,.pointer (F ⟨b2,0,O⟩)),(3,.pointer (F ⟨b3,0,O⟩)),(4,.pointer (F ⟨b4,0,O⟩))]) (fun hV=>?_) (fun⟨q,b5⟩=>?_)
 ·refine Zz.nc 6 4 (T1:=[4,5,7]) (T2:=[5,6,7]) (fun w' h'=>hcl w' h'.1) (cs:=[I J 0,Z O 0 0]) (bt:=26) ?_ (fun b5 h5=>?_) (fun q=>?_)
  ·intro ρ w';simp[go_sem];try rfl
  ·refine Zz.cf (fun w' h'=>hcl w' h'.1) (fun q=>?_);refine Wz ?_;refine Zz.st ?_;refine Zz.off (fun w' h'=>h'.sel) ?_;exact R.z (V.less (hV (q,b5)) (fun w' h'=>h'.sel))
  ·refine Wz ?_;refine Zz.new fun b5 h5=>?_;refine Zz.st ?_;refine Zz.off (fun w' h'=>h'.sel) ?_;exact R.z (V.less (hV (q,b5)) (fun w' h'=>h'.sel))
 dsimp only
 repeat refine W ?_
 refine V.loop (ι:=Nat×List (Value×Value)×Option Addr×Nat) (fun p=>p.1<=b.nodes.length/\p.2.1.length=p.1/\∀ (j:Nat) x q,((b.nodes.take p.1).map (IM a.nodes.length))[j]? =F x->p.2.1[j]? =F q->∃ (KA:Option Addr) (kc:Nat),q.1=Z KA x.keys.length kc/\Fk wB (fun b=>b<wB.heap.size) KA x.keys)
  (fun p=>Mem Ao w [Af 40 6 (Z p.2.2.1 (a.nodes.length+p.1) p.2.2.2) (a.nodes.length+p.1) (AU (a.nodes++(b.nodes.take p.1).map (IM a.nodes.length)) (qs++p.2.1)),blk b5 [I J a.root,Z p.2.2.1 (a.nodes.length+p.1) p.2.2.2] 26,star (kdOw 3 ((b.nodes.take p.1).map (IM a.nodes.length)) p.2.1),blk b4 [I J 0,Z O 0 0] 26,blk b3 [I J b.root,Z B b.nodes.length c2] 26,blk b2 [I J a.root,Z (F ⟨ab,ao,O⟩) a.nodes.length c] 26])
  (fun p=>[(18,I J p.1),(17,I J b.nodes.length),(16,Z B b.nodes.length c2),(2,.pointer (F ⟨b2,0,O⟩)),(3,.pointer (F ⟨b3,0,O⟩)),(4,.pointer (F ⟨b4,0,O⟩)),(5,.pointer (F ⟨b5,0,O⟩))]) (fun p=>b.nodes.length - p.1) (0,[],q.1,q.2) ⟨Nat.zero_le _,rfl,fun j x q h=>by simp at h⟩ ?_ ⟨rfl,rfl,rfl,rfl,rfl,rfl,rfl,trivial⟩ ?_
 ·intro w' h';have h9:=Mem.toStar (B:=[]) (show Mem Ao w ([]++_) w' from h');simp only[List.take_zero,List.map_nil,List.append_nil,kdOw,Nat.add_zero]
  exact h9.sel
 rintro⟨i,us,LA,lc⟩ ⟨hi,hul,hus⟩;dsimp only at hi hul hus
 repeat refine W ?_
 refine V.ifp (fun hlt=>?_) (fun hge=>?_)
 ·have hlt2:i<b.nodes.length:=by omega
  obtain⟨x,hx⟩:∃ x,b.nodes[i]? =F x:=⟨_,List.getElem?_eq_getElem hlt2⟩
  obtain⟨bb,bo,KA,kc,IA,ic,rfl,_,hc,_,his⟩:=hB i x hx;obtain⟨bb',bo',KA',kc',IA',ic',e',_,hc',hks,_⟩:=hB0 i x hx;cases e'
  obtain⟨rfl,rfl⟩:KA=KA'/\kc=kc':=by
   have h1:=hc 4 _ rfl;have h2:=cell_below (hc' 4 _ rfl) hW;rw[h1] at h2;injection h2 with h2;injection h2 with h2 _ h3;exact⟨h2,h3⟩
  obtain⟨hkl,hkr⟩:=hk x (List.mem_of_getElem? hx);have htk:(b.nodes.take (i+1)).map (IM a.nodes.length)=(b.nodes.take i).map (IM a.nodes.length)++[IM a.nodes.length x]:=by rw[List.take_add_one,hx,List.map_append];rfl
  have hml:((b.nodes.take i).map (IM a.nodes.length)).length=i:=by rw[List.length_map,List.length_take];omega
  repeat refine W ?_
  refine R.ix hlt2 ?_;refine R.lo 0 hc ?_;refine R.new fun b7 h7=>?_
  repeat refine W ?_
  refine R.cf (fun w' h'=>Ls (fun k=>k<w.heap.size) IA ic x.kids w' (his.to fun b o v hb hv=>⟨h'.1.cell hv (fun e=>e),hb⟩) (by omega)) (fun v=>?_);refine R.know (p:=(v=Z O 0 0/\x.kids.length=0)\/∃ g c,v=Z (F ⟨g,0,O⟩) x.kids.length c) (fun w' h'=>AL h' (List.Mem.head _)) fun hpv=>?_;obtain⟨PA,pc,rfl⟩:∃ PA pc,v=Z PA x.kids.length pc:=by
   rcases hpv with ⟨e,e0⟩ | ⟨g,c,e⟩
   ·exact⟨O,0,by rw[e,e0]⟩
   ·exact⟨_,c,e⟩
  repeat refine W ?_
  refine V.loop (·<=x.kids.length) (fun k=>Mem Ao w [Af 3 1 (Z PA x.kids.length pc) x.kids.length (((x.kids.take k).map (·+(a.nodes.length:Int))++x.kids.drop k).map (I J)),blk b7 (NP x (Z KA x.keys.length kc) (Z PA x.kids.length pc)) 40,Af 40 6 (Z LA (a.nodes.length+i) lc) (a.nodes.length+i) (AU (a.nodes++(b.nodes.take i).map (IM a.nodes.length)) (qs++us)),blk b5 [I J a.root,Z LA (a.nodes.length+i) lc] 26,star (kdOw 3 ((b.nodes.take i).map (IM a.nodes.length)) us),blk b4 [I J 0,Z O 0 0] 26,blk b3 [I J b.root,Z (F ⟨bb,bo,O⟩) b.nodes.length c2] 26,blk b2 [I J a.root,Z (F ⟨ab,ao,O⟩) a.nodes.length c] 26])
   (fun k=>[(29,I J k),(28,I J x.kids.length),(7,.pointer (F ⟨b7,0,O⟩)),(18,I J i),(17,I J b.nodes.length),(16,Z (F ⟨bb,bo,O⟩) b.nodes.length c2),(2,.pointer (F ⟨b2,0,O⟩)),(3,.pointer (F ⟨b3,0,O⟩)),(4,.pointer (F ⟨b4,0,O⟩)),(5,.pointer (F ⟨b5,0,O⟩))]) (x.kids.length - ·) 0 (Nat.zero_le _) (fun w h=>h.sel) ⟨rfl,rfl,rfl,rfl,rfl,rfl,rfl,rfl,rfl,rfl,trivial⟩ ?_
  rintro k hkk
  repeat refine W ?_
  refine V.ifp (fun hlt=>?_) (fun hge=>?_)
  ·have hlt3:k<x.kids.length:=by omega
   obtain⟨n,hn⟩:∃ n,x.kids[k]? =F n:=⟨_,List.getElem?_eq_getElem hlt3⟩
   have hnr:=hkr n (List.mem_of_getElem? hn);obtain⟨pg,rfl⟩:∃ g,PA=F ⟨g,0,O⟩:=by
    rcases hpv with ⟨_,e0⟩ | ⟨g,c,e⟩
    ·omega
    ·cases e;exact⟨g,rfl⟩
   have hdr:x.kids.drop k=n::x.kids.drop (k+1):=by
    rw[List.drop_eq_getElem_cons hlt3];rw[List.getElem?_eq_getElem hlt3] at hn;cases hn;rfl
   have htk3:(x.kids.take (k+1)).map (·+(a.nodes.length:Int))=(x.kids.take k).map (·+(a.nodes.length:Int))++[n+a.nodes.length]:=by rw[List.take_add_one,hn,List.map_append];rfl
   have hcl:((x.kids.take k).map (·+(a.nodes.length:Int))).length=k:=by rw[List.length_map,List.length_take];omega
   have hat:=ZP ((x.kids.take k).map (·+(a.nodes.length:Int))) (x.kids.drop (k+1)) n;have hst2:=OW ((x.kids.take k).map (·+(a.nodes.length:Int))) (x.kids.drop (k+1)) n (n+a.nodes.length);rw[hcl] at hat hst2;rw[hdr]
   repeat refine W ?_
   refine R.ix hlt3 ?_;refine R.lw (v:=I J n) ?_ ?_
   ·rw[Nat.zero_add,Nat.mul_one,hat];rfl
   repeat refine W ?_
   refine R.ix hlt3 ?_;refine R.sw (v:=I J (n+a.nodes.length)) (xs':=((x.kids.take k).map (·+(a.nodes.length:Int))++(n+a.nodes.length)::x.kids.drop (k+1)).map (I J)) ?_ ?_ (hp:=.inr (.inl ⟨rfl,by kernel_rfl⟩))
   ·rw[Nat.zero_add,Nat.mul_one];exact hst2
   repeat refine W ?_
   refine V.again (k+1) rfl hlt3 (hs:=fun w' h'=>?_);rw[htk3,List.append_assoc];exact h'.sel
  ·have hk3:k=x.kids.length:=by omega
   subst hk3;rw[List.take_length,List.drop_length,List.append_nil]
   repeat refine W ?_
   refine R.bs (m:=1) (fun b8 h8=>?_);refine R.app elN (k:=a.nodes.length+i) (m:=1) (news:=NP (IM a.nodes.length x) (Z KA x.keys.length kc) (Z PA x.kids.length pc)) (fun w' h'=>(Cs.of_blk (h'.blk (List.Mem.head _))).add) (by omega) (fun LA2 lc2=>?_)
   repeat refine W ?_
   obtain⟨k1,_⟩:=KS (it:=3) (a.nodes++(b.nodes.take i).map (IM a.nodes.length)) (qs++us) (IM a.nodes.length x) (Z KA x.keys.length kc,Z PA x.kids.length pc) (by rw[List.length_append,List.length_append,hml,hq1,hul]);have k2:=R0 (it:=3) ((b.nodes.take i).map (IM a.nodes.length)) us (IM a.nodes.length x) (Z KA x.keys.length kc,Z PA x.kids.length pc) (by rw[hml,hul]);refine V.again (i+1,us++[(Z KA x.keys.length kc,Z PA x.kids.length pc)],LA2,lc2) rfl ⟨hlt2,by rw[List.length_append,hul];rfl,fun j y q hy hq=>?_⟩ (hs:=fun w' h'=>?_)
   ·dsimp only at hy hq;rw[htk] at hy;by_cases hj:j<i
    ·rw[List.getElem?_append_left (by omega)] at hy;rw[List.getElem?_append_left (by omega)] at hq;exact hus j y q hy hq
    ·rw[List.getElem?_append_right (by omega)] at hy;rw[List.getElem?_append_right (by omega)] at hq;have hj2:j - i=0:=by have:=(List.getElem?_eq_some_iff.1 hq).1;simp at this;omega
     rw[hml,hj2] at hy;rw[hul,hj2] at hq;cases hy;cases hq
     exact⟨KA,kc,rfl,hks⟩
   ·dsimp only
    rw[htk,<- List.append_assoc,<- List.append_assoc,k1,k2];refine Mem.sel (E0 (A:=kdOw 3 ((b.nodes.take i).map (IM a.nodes.length)) us) (B:=[Af 3 1 (Z PA x.kids.length pc) (IM a.nodes.length x).kids.length ((IM a.nodes.length x).kids.map (I J))]) (Zz:=[Af 40 6 (Z LA2 (a.nodes.length+i+1) lc2) (a.nodes.length+i+1) (AU (a.nodes++(b.nodes.take i).map (IM a.nodes.length)) (qs++us)++NP (IM a.nodes.length x) (Z KA x.keys.length kc) (Z PA x.kids.length pc)),blk b5 [I J a.root,Z LA2 (a.nodes.length+i+1) lc2] 26,blk b4 [I J 0,Z O 0 0] 26,blk b3 [I J b.root,Z (F ⟨bb,bo,O⟩) b.nodes.length c2] 26,blk b2 [I J a.root,Z (F ⟨ab,ao,O⟩) a.nodes.length c] 26]) ?_);have hkl2:(IM a.nodes.length x).kids.length=x.kids.length:=List.length_map ..;rw[hkl2];exact h'.sel
 ·have hi2:i=b.nodes.length:=by omega
  subst hi2;rw[List.take_length] at hus;rw[List.take_length]
  repeat refine W ?_
  refine V.end (fun w' h'=>?_) (hv:=.agg rfl (by(repeat (first | exact List.Mem.head _ | apply List.Mem.tail))) (by intro w;kernel_rfl) (by intro w;simp;try rfl) .nil);have hln:(a.nodes++b.nodes.map (IM a.nodes.length)).length=a.nodes.length+b.nodes.length:=by rw[List.length_append,List.length_map]
  have h9:Mem Ao w [Af 40 6 (Z LA (a.nodes.length+b.nodes.length) lc) (a.nodes.length+b.nodes.length) (AU (a.nodes++b.nodes.map (IM a.nodes.length)) (qs++us)),star (kdOw 3 (b.nodes.map (IM a.nodes.length)) us)] w':=h'.sel;rw[<- hln] at h9;obtain⟨g,c',e,hm⟩:=WP (wB:=wB) (Z0:=[]) a.root hq1 (by rw[List.length_map,hul]) hq3 hus h9 (by rw[hln];omega);injection e with e1 e2 e3;subst e1;subst e3;refine⟨(g,lc),?_,hm.to_fr⟩;unfold Eh BJ;rw[hln];rfl
end
section
set_option maxHeartbeats 16000000
set_option maxRecDepth 100000
structure GrP (w:Y) (rt:Sc->Bool) (A:Option Addr) (g:Gf):Prop where
 nds:CL w (fun k=>k<w.heap.size) A g.nodes
 chk:IZ rt g=(0,0)
 sm:SmN g.nodes
 right:∀ x∈g.nodes,A7 139 rt x.x w/\∀ y∈x.keys,A7 139 rt y w
 root:0<=g.root/\g.root<g.nodes.length
 len:g.nodes.length<=200
 kids:∀ x∈g.nodes,x.kids.length<=40000/\∀ n∈x.kids,0<=n/\n<g.nodes.length
theorem Pz (tx:Sc->List UInt8) (ns:List Nd):∀ (f n m:Nat) (c:List Int),c.length=ns.length->(On tx ns f n m c).length=ns.length
 | 0,n,m,c,h=>h
 | f+1,n,m,c,h=>by
  unfold On;split
  ·exact Pz tx ns f _ _ _ (Is ..)
  ·exact h
theorem Aaa (tx:Sc->List UInt8) (ns:List Nd):(LP tx ns).length=ns.length:=Pz tx ns _ _ _ _ (Is ..)
theorem QJ {is:List Int} {k:Nat} {d:Int} (h:k<is.length):Zz false 1 ((is.map (Value.int .i64)).drop (0+k*1))=F (I J (is.getD k d)):=by
 rw[Nat.zero_add,Nat.mul_one,List.drop_eq_getElem_cons (by rw[List.length_map];exact h),List.getElem_map,List.getD,List.getElem?_eq_getElem h];rfl
theorem WA (tx:Sc->List UInt8) (rt:Sc->Bool) (g h:Gf) (A B:Option Addr) (c c2:Nat) (w:Y) (hg:GrP w rt A g) (hh:GrP w rt B h) (hD:∀ S,DF w S) (hE:Ea.ErrC w) (hP:Y0 w tx (BJ g.nodes h.nodes) (BJ g.nodes h.nodes).length):
  Calls Tryz.prog 39 #[Eh A c g,Eh B c2 h] w fun e w'=>e=.returned (.tuple #[.bool (IE tx g h),I J 0])/\Below w.heap.size w w':=by
 have hC:=fun(x:Gf) (X:Option Addr) cx (hx:GrP w rt X x) w' (hb:Below w.heap.size w w')=>JW (fun k=>k<w.heap.size) rt x X cx w' (hx.nds.to fun b o v hb' hv=>⟨cell_below hv hb,hb'⟩) hx.sm (fun y hy=>⟨(hx.right y hy).1.to hb,fun z hz=>((hx.right y hy).2 z hz).to hb⟩) (fun w1 A1 c1 ks hb1 hk=>hD _ w1 A1 c1 ks (hb.trans (hb1.mono hb.size)) hk) (cell_below hE hb);have hCg:=hC g A c hg;have hCh:=hC h B c2 hh;rw[hg.chk] at hCg;rw[hh.chk] at hCh;have hg1:=hg.len;have hh1:=hh.len;have hg2:=hg.root;have hh2:=hh.root;have hln:(BJ g.nodes h.nodes).length=g.nodes.length+h.nodes.length:=by unfold BJ;rw[List.length_append,List.length_map]
 refine V.enter _ Tryz.func39 (Mem.start (C:=Ao) w) ?_;refine W ?_;refine R.new fun b2 h2=>?_;refine R.new fun b3 h3=>?_
 repeat refine W ?_
 refine R.bs (m:=2) (cs:=[I J g.root,Z A g.nodes.length c,I J h.root,Z B h.nodes.length c2]) (bt:=26) (fun bl hl=>?_)
 repeat refine W ?_
 refine V.loop (ι:=Nat) (fun k=>k<=2) (fun _=>Mem Ao w [blk bl [I J g.root,Z A g.nodes.length c,I J h.root,Z B h.nodes.length c2] 26,blk b3 [I J h.root,Z B h.nodes.length c2] 26,blk b2 [I J g.root,Z A g.nodes.length c] 26]) (fun(k:Nat)=>[(15,I J k),(14,I J 2),(13,Z (F ⟨bl,0,O⟩) 2 2),(2,.pointer (F ⟨b2,0,O⟩)),(3,.pointer (F ⟨b3,0,O⟩)),(4,.bool false),(5,I J 0)]) (fun k=>2 - k) 0 (by omega) (fun w h=>h.sel) ⟨rfl,rfl,rfl,rfl,rfl,rfl,rfl,trivial⟩ ?_;intro k hk
 match k,hk with
 | 0,_=>
  repeat refine W ?_
  refine R.new fun b7 h7=>?_
  repeat refine W ?_
  refine R.c (fun w' h'=>hCg w' h'.1.below) ?_
  repeat refine W ?_
  exact V.again 1
 | 1,_=>
  repeat refine W ?_
  refine R.new fun b7 h7=>?_
  repeat refine W ?_
  refine R.c (fun w' h'=>hCh w' h'.1.below) ?_
  repeat refine W ?_
  exact V.again 2
 | 2,_=>
  repeat refine W ?_
  refine R.cf (fun w' h'=>TZ g h A B c c2 w w' h'.1.below hg.nds hh.nds (by omega) ⟨by omega,by omega⟩ (fun x hx=>⟨(hh.kids x hx).1,fun n hn=>by have:=(hh.kids x hx).2 n hn;omega⟩)) (fun q=>?_);refine R.cf (fun w' h'=>Adr g.root (F ⟨q.1,0,O⟩) (BJ g.nodes h.nodes).length q.2 w' (by omega)) (fun p=>?_);obtain⟨gj,hgj⟩:∃ x:Gf,x=⟨g.root,BJ g.nodes h.nodes⟩:=⟨_,rfl⟩
  have hz:(MW gj.nodes.length).length=gj.nodes.length:=by unfold MW;simp
  have hE2:Ut w p.1 (F ⟨q.1,0,O⟩) (F ⟨p.2,0,O⟩) q.2 gj.nodes.length gj (MW gj.nodes.length)=[blk p.1 [I J gj.root,Z (F ⟨q.1,0,O⟩) gj.nodes.length q.2,Z (F ⟨p.2,0,O⟩) gj.nodes.length gj.nodes.length] 182,Af 3 1 (Z (F ⟨p.2,0,O⟩) gj.nodes.length gj.nodes.length) gj.nodes.length ((MW gj.nodes.length).map (I J)),grW w (Eh (F ⟨q.1,0,O⟩) q.2 gj) gj]:=by unfold Ut;rw[hz]
  have hln2:gj.nodes.length=g.nodes.length+h.nodes.length:=by rw[hgj];exact hln
  refine R.iff (S':=Mem Ao w (Mv w p.1 (F ⟨q.1,0,O⟩) (F ⟨p.2,0,O⟩) q.2 gj.nodes.length gj (MW gj.nodes.length)::[blk bl [I J g.root,Z A g.nodes.length c,I J h.root,Z B h.nodes.length c2] 26,blk b3 [I J h.root,Z B h.nodes.length c2] 26,blk b2 [I J g.root,Z A g.nodes.length c] 26])) (fun w'=>?_) ?_
  ·unfold Mv;rw[hE2,hgj];exact⟨fun h'=>Mem.toStar (B:=[_,_,_]) h',fun h'=>h'.star⟩
  refine R.cq (fun w' h'=>TC w tx p.1 (F ⟨q.1,0,O⟩) (F ⟨p.2,0,O⟩) q.2 gj.nodes.length gj w' (by rw[hgj];exact hP) (by omega) h'.1.below) (fun Fz hF b hb=>(hF b hb).elim id (fun e=>e.elim)) (fun _=>?_);iterate 2 refine W ?_
  refine V.star ?_;have hrl:=Aaa tx gj.nodes;have hr1:=hg.root;have hr2:=hh.root;show V _ _ _ _ _ _ (Mem Ao w [blk p.1 _ _,Af _ _ _ _ _,grW _ _ _,blk bl _ _,blk b3 _ _,blk b2 _ _]) _;iterate 4 refine W ?_
  refine R.re 35 (v:=I J g.root) (v':=I J (g.root.toNat:Int)) (by congr 1;omega) ?_;refine R.ix (show g.root.toNat<gj.nodes.length by omega) ?_;refine R.lw (v:=I J ((LP tx gj.nodes).getD g.root.toNat 0)) (QJ (by omega)) ?_;iterate 7 refine W ?_
  refine R.re 44 (v:=I J (h.root+(g.nodes.length:Int))) (v':=I J ((h.root.toNat+g.nodes.length:Nat):Int)) (by congr 1;omega) ?_;refine R.ix (show h.root.toNat+g.nodes.length<gj.nodes.length by omega) ?_;refine R.lw (v:=I J ((LP tx gj.nodes).getD (h.root.toNat+g.nodes.length) 0)) (QJ (by omega)) ?_
  repeat refine W ?_
  refine V.end fun w' h'=>?_;exact⟨by rw[hgj];rfl,h'.1.below⟩
end
section
set_option maxHeartbeats 8000000
set_option maxRecDepth 100000
theorem Xq (s:List UInt8) (h00:(Ba 100000 s).2.2=0->(Ba 100000 s).2.1=0):(D0 2 (Al s) (D8 s) (GS s)).1=(Ba 100000 s).1/\(D0 2 (Al s) (D8 s) (GS s)).2.2=(Ba 100000 s).2/\(D0 2 (Al s) (D8 s) (GS s)).2.1=Ib/\((D0 2 (Al s) (D8 s) (GS s)).2.2.2=0->(D0 2 (Al s) (D8 s) (GS s)).2.2.1=0):=by
 unfold D0;by_cases h1:(Al s).2.2=0
 ·have ht:Ba 100000 s=D8 s:=by unfold Ba;exact if_neg (fun h=>h h1)
  rw[ht] at h00 |-;by_cases h2:(D8 s).2.2=0
  ·have h3:(D8 s).2.1=0:=h00 h2;simp[h1,h2];exact Prod.ext h3.symm h2.symm
  ·have h3:(D8 s).1=DW:=Ti h2;simp[h1,h2,h3]
 ·have ht:Ba 100000 s=(DW,(Al s).2.1,(Al s).2.2):=by unfold Ba;exact if_pos h1
  simp[h1,ht]
theorem Sw (s:ByteArray) (w:Y) (hW:FI w) (h00:(Ba 100000 s.data.toList).2.2=0->(Ba 100000 s.data.toList).2.1=0):
  Calls Tryz.prog 22 #[Q s] w fun e w'=>∃ y:TY,e=.returned (.tuple #[.agg (As y).toArray,I J (Ba 100000 s.data.toList).2.1,I J (Ba 100000 s.data.toList).2.2])/\Fr w w' [Aq (As y) (Ba 100000 s.data.toList).1]:=by
 have hA:=fun fb w' (h:FI w') hf=>VE s _ _ _ fb 2 [] w' (Afj h s) (.inl ⟨rfl,rfl⟩) hf;obtain⟨h1,h2,h3,h0⟩:=Xq s.data.toList h00;rw[h2] at h0;rw[h1,h3,h2] at hA;obtain⟨L,hL⟩:∃ x,Ba 100000 s.data.toList=x:=⟨_,rfl⟩
 rw[hL] at hA h0 |-;clear h1 h2 h3 h00 hL;refine V.enter _ Tryz.func22 (Mem.start (C:=Ao) w) ?_;refine W ?_;refine R.new fun b2 h2=>?_
 repeat refine W ?_
 refine R.new fun b5 h5=>?_
 repeat refine W ?_
 refine R.bs (m:=2) (fun fb hfb=>?_);refine R.cf (ι:=TY×Option Addr×Nat) (v:=fun x=>.tuple #[.agg (As x.1).toArray,Eh x.2.1 x.2.2 Ib,CP L.2.1 L.2.2]) (X:=fun x=>[Aq (As x.1) L.1]) (fun w' h'=>(hA fb w' (hW.to h'.1.below) (Cs.of_blk (h'.blk (List.Mem.head _)))).mono fun e w1 ⟨x,he,_,hf,_⟩=>⟨x,he,hf rfl⟩) (fun x=>?_)
 repeat (first | refine W ?_ | refine R.new fun _ _=>?_)
 refine R.c (fun w' h'=>Af2 L.2.1 L.2.2 w' (hW.to h'.1.below).errC h0) ?_
 repeat refine W ?_
 refine V.end (fun w' h'=>?_) (hv:=.agg rfl (by(repeat (first | exact List.Mem.head _ | apply List.Mem.tail))) (by intro w;kernel_rfl) (by intro w;simp;try rfl) (.tmp rfl (.tmp rfl .nil)));exact⟨x.1,rfl,(h'.sel:Mem Ao w [Aq _ _] w').to_fr⟩
structure GrQ (g:Gf):Prop where
 chk:IZ Ap g=(0,0)
 sm:SmN g.nodes
 str:∀ x∈g.nodes,x.x.str.size<=100000/\∀ y∈x.keys,y.str.size<=100000
 root:0<=g.root/\g.root<g.nodes.length
 len:g.nodes.length<=200
 kids:∀ x∈g.nodes,x.kids.length<=40000/\∀ n∈x.kids,0<=n/\n<g.nodes.length
theorem GrQ.to {w:Y} {Fz:Nat->Prop} {A:Option Addr} {g:Gf} (h:GrQ g) (hW:FI w) (hn:CL w Fz A g.nodes) (hF:∀ b,Fz b->b<w.heap.size):GrP w Ap A g where
 nds:=hn.to fun b o v hb hv=>⟨hv,hF b hb⟩
 chk:=h.chk
 sm:=h.sm
 right x hx:=⟨hW.right (by have:=(h.str x hx).1;omega),fun y hy=>hW.right (by have:=(h.str x hx).2 y hy;omega)⟩
 root:=h.root
 len:=h.len
 kids:=h.kids
structure Ys (ns:List Nd):Prop where
 len:ns.length<=1000
 small:∀ x∈ns,x.keys.length<=1000000/\x.kids.length<=40000
 once:∀ x∈ns,x.keys.Nodup
 sort:∀ x∈ns,JF x.keys.length
 str:∀ x∈ns,∀ y∈x.keys,y.str.size<=100000
 fit:∀ x∈ns,(MR XY (BK x)).length<=900000
 kids:∀ x∈ns,∀ n∈x.kids,0<=n/\n<ns.length
theorem N4 {x:Nd} {y:Sc} (h:y∈BK x):y∈x.keys:=by
 unfold BK Dm at h;split at h
 ·obtain⟨p,hp,rfl⟩:=List.mem_map.1 h;exact(List.of_mem_zip ((Ca _).mem_iff.1 hp)).1
 ·cases h
theorem Ys.to {w:Y} {ns:List Nd} (h:Ys ns) (hW:FI w):Y0 w XY ns ns.length where
 len:=h.len
 small:=h.small
 once:=h.once
 sort:=h.sort
 text x hx y hy w' hb:=(TJ y w' (h.str x hx y (N4 hy)) (hW.tabs.below hb)).mono fun e w1 ⟨he,hb1⟩=>⟨(DN y).2,by rw[he];unfold Ze XY;simp,hb1⟩
 fit:=h.fit
 kids:=h.kids
 itoa n w' hb h1 h2:=Qp n w' (by omega) (by omega) (hW.tabs.below hb)
theorem YD:Iu:=fun x y w=>(PH x y w).mono fun e w' ⟨he,hg⟩=>⟨he,hg.below⟩
theorem KH {A B:Option Addr} {c d:Nat} {g:Gf} (h:Eh A c g=Eh B d g):A=B/\c=d:=by
 unfold Eh at h;injection h with h;injection h with h;injection h with _ h;injection h with h _;injection h with h1 _ h2;exact⟨h1,h2⟩
def AY (s t:List UInt8):Bool×Int:=if (Am A6 100000 s).2.2≠0 then (false,(Am A6 100000 s).2.2) else if (Am A6 100000 t).2.2≠0 then (false,(Am A6 100000 t).2.2) else (IE XY (Am A6 100000 s).1 (Am A6 100000 t).1,0)
theorem Nx (s t:ByteArray) (w:Y) (hW:FI w) (hs:(Am A6 100000 s.data.toList).2.2=0->GrQ (Am A6 100000 s.data.toList).1) (ht:(Am A6 100000 t.data.toList).2.2=0->GrQ (Am A6 100000 t.data.toList).1)
  (hb:(Am A6 100000 s.data.toList).2.2=0->(Am A6 100000 t.data.toList).2.2=0->Ys (BJ (Am A6 100000 s.data.toList).1.nodes (Am A6 100000 t.data.toList).1.nodes)):
  Calls Tryz.prog 16 #[Q s,Q t] w fun e w'=>e=.returned (.tuple #[.bool (AY s.data.toList t.data.toList).1,I J (AY s.data.toList t.data.toList).2])/\Below w.heap.size w w':=by
 have hS:=fun w' (h:FI w')=>Et s w' h;have hT:=fun w' (h:FI w')=>Et t w' h;unfold AY;obtain⟨L,hL⟩:∃ x,Am A6 100000 s.data.toList=x:=⟨_,rfl⟩
 obtain⟨M,hM⟩:∃ x,Am A6 100000 t.data.toList=x:=⟨_,rfl⟩
 rw[hL] at hS hs hb |-;rw[hM] at hT ht hb |-;clear hL hM;refine V.enter _ Tryz.func16 (Mem.start (C:=Ao) w) ?_
 repeat refine W ?_
 refine R.cf (fun w' h'=>hS w' (hW.to h'.1.below)) (fun q=>?_)
 repeat (first | refine W ?_ | refine R.new fun _ _=>?_)
 by_cases e1:L.2.2=0
 ·refine V.re 18 (v:=.bool (L.2.2 !=0)) (v':=.bool false) (by simp[e1]) ?_
  repeat refine W ?_
  refine R.cf (fun w' h'=>hT w' (hW.to h'.1.below)) (fun q2=>?_)
  repeat (first | refine W ?_ | refine R.new fun _ _=>?_)
  by_cases e2:M.2.2=0
  ·refine V.re 27 (v:=.bool (M.2.2 !=0)) (v':=.bool false) (by simp[e2]) ?_
   repeat refine W ?_
   refine R.c (fun w' h'=>?_) ?_ (v:=.tuple #[.bool (IE XY L.1 M.1),I J 0])
   ·obtain⟨Fz,⟨A,c,ea,hn⟩,hF⟩:=h'.has (X:=Nq (Eh q.1 q.2 L.1) L.1) (by simp);obtain⟨F2,⟨A2,c2,ea2,hn2⟩,hF2⟩:=h'.has (X:=Nq (Eh q2.1 q2.2 M.1) M.1) (by simp);have hW':=hW.to h'.1.below;obtain⟨rfl,rfl⟩:=KH ea;obtain⟨rfl,rfl⟩:=KH ea2;exact WA XY Ap L.1 M.1 q.1 q2.1 q.2 q2.2 w' ((hs e1).to hW' hn fun b hb=>(hF b hb).1) ((ht e2).to hW' hn2 fun b hb=>(hF2 b hb).1) (fun S=>K6 _ _) hW'.errC ((hb e1 e2).to hW')
   repeat refine W ?_
   refine V.end fun w' h'=>?_;rw[if_neg (fun h=>h e1),if_neg (fun h=>h e2)];exact⟨rfl,h'.1.below⟩
  ·refine V.re 27 (v:=.bool (M.2.2 !=0)) (v':=.bool true) (by simp[e2]) ?_
   repeat refine W ?_
   refine V.end fun w' h'=>?_;rw[if_neg (fun h=>h e1),if_pos e2];exact⟨rfl,h'.1.below⟩
 ·refine V.re 18 (v:=.bool (L.2.2 !=0)) (v':=.bool true) (by simp[e1]) ?_
  repeat refine W ?_
  refine V.end fun w' h'=>?_;rw[if_pos e1];exact⟨rfl,h'.1.below⟩
end
section
set_option maxHeartbeats 4000000
open Go.Sort (swp PermIn SortedIn SWO)
set_option maxRecDepth 100000
abbrev IP:=Sc×Int
instance instPrK:Inhabited IP:=⟨(⟨0,0,ByteArray.empty⟩,0)⟩
abbrev pA (v:Value) (n:Nat) (l:List (Sc×Int)):Aj:=Af 274 4 v n (l.flatMap Ct)
abbrev dA (v:Value) (n:Nat) (d:Array IP):Aj:=pA v n d.toList
theorem Eb (d:Array IP) (i:Nat) (h:i<d.size):(d.toList.flatMap Ct).drop (i*4)=Ct d[i]! ++(d.toList.drop (i+1)).flatMap Ct:=Ik _ _ _ (by simp[h])
theorem Gw (d:Array IP) (i:Nat) (x:IP) (h:i<d.size):AC (d.toList.flatMap Ct) (i*4) (Ct x)=F ((d.setIfInBounds i x).toList.flatMap Ct):=by
 have h1:=Ada (d.toList.take i) (d.toList.drop (i+1)) d[i]! x;have hi:i<d.toList.length:=by simpa using h
 have h2:d.toList.take i++d[i]! ::d.toList.drop (i+1)=d.toList:=by
  have e:d[i]! =d.toList[i]:=by simp[h]
  rw[e,<- List.drop_eq_getElem_cons hi,List.take_append_drop]
 rw[h2,List.length_take,Nat.min_eq_left (by omega)] at h1;rw[h1,Array.toList_setIfInBounds,List.set_eq_take_append_cons_drop,if_pos hi]
theorem Gz {Fz:Nat->Prop} {w w':Y} {v:Value} {n:Nat} {d:Array IP} (h:Mem Fz w [dA v n d] w') (hd:d.size=n):∃ PA pc,v=Z PA n pc/\(0<n->∃ g,PA=F ⟨g,0,O⟩):=by
 rcases AL h (List.Mem.head _) with ⟨e,e0⟩ | ⟨g,c,e⟩
 ·exact⟨O,0,by rw[e,e0],fun h0=>by omega⟩
 ·exact⟨_,c,e,fun _=>⟨g,rfl⟩⟩
theorem OQ (n:Nat) (v fn:Value) (a b k:Nat) (d:Array IP) (w:Y) (hs:d.size=n) (hab:a+k<=b) (hb:b+k<=n) (hn:n<=1000000):
  B9 Tryz.prog 280 #[v,I J a,I J b,I J k,fn] w (dA v n d) (fun _:Unit=>.tuple #[]) (fun _=>dA v n (DX a b k d)):=by
 intro Fz hX hF;obtain⟨PA,pc,rfl,hPA⟩:=Gz (Mem.startX hX hF) hs;refine V.enter _ Tryz.func280 (Mem.startX hX hF) ?_
 repeat refine W ?_
 refine V.loop (ι:=Nat×Array IP) (fun p=>p.1<=k/\p.2.size=n/\Cf a b k p.1 p.2=DX a b k d) (fun p=>Mem Fz w [dA (Z PA n pc) n p.2]) (fun p=>[(10,I J p.1),(0,Z PA n pc),(1,I J a),(2,I J b),(3,I J k)]) (fun p=>k - p.1) (0,d) ⟨Nat.zero_le _,hs,rfl⟩ (fun w h=>h) ⟨rfl,rfl,rfl,rfl,rfl,trivial⟩ ?_;rintro⟨i,e⟩ ⟨hik,hes,he⟩;dsimp only at hik hes he
 repeat refine W ?_
 refine V.ifp (fun hlt=>?_) (fun hge=>?_)
 ·have hlt:i<k:=by omega
  obtain⟨g,rfl⟩:=hPA (by omega);have hz:(e.setIfInBounds (a+i) e[b+i]!).size=n:=by rw[Array.size_setIfInBounds,hes]
  repeat refine W ?_
  refine R.ix (show b+i<n by omega) ?_;refine R.lw (v:=.agg (Ct e[b+i]!).toArray) ?_ ?_
  ·rw[Nat.zero_add,Eb e (b+i) (by omega)];rfl
  repeat refine W ?_
  refine R.ix (show a+i<n by omega) ?_;refine R.lw (v:=.agg (Ct e[a+i]!).toArray) ?_ ?_
  ·rw[Nat.zero_add,Eb e (a+i) (by omega)];rfl
  refine R.ix (show a+i<n by omega) ?_;refine R.sw (v:=.agg (Ct e[b+i]!).toArray) (xs':=(e.setIfInBounds (a+i) e[b+i]!).toList.flatMap Ct) ?_ ?_ (hp:=.inr (.inl ⟨rfl,by kernel_rfl⟩))
  ·rw[Nat.zero_add];exact Gw e (a+i) _ (by omega)
  refine R.ix (show b+i<n by omega) ?_;refine R.sw (v:=.agg (Ct e[a+i]!).toArray) (xs':=(swp e (a+i) (b+i)).toList.flatMap Ct) ?_ ?_ (hp:=.inr (.inl ⟨rfl,by kernel_rfl⟩))
  ·rw[Nat.zero_add];exact Gw _ (b+i) _ (by omega)
  repeat refine W ?_
  refine V.again (i+1,swp e (a+i) (b+i)) rfl ⟨hlt,by rw[Go.Sort.size_swp,hes],by rw[<- he,ED _ _ _ _ _ hlt]⟩
 ·repeat refine W ?_
  refine V.end fun w' h'=>?_;rw[<- he,B7 _ _ _ _ _ (by omega)];exact⟨(),rfl,Mem.toW h'.sel⟩
theorem Aeu (n:Nat) (v fn:Value) (a m b:Nat) (d:Array IP) (w:Y) (hs:d.size=n) (ham:a<m) (hmb:m<b) (hb:b<=n) (hn:n<=1000000):
  B9 Tryz.prog 267 #[v,I J a,I J m,I J b,fn] w (dA v n d) (fun _:Unit=>.tuple #[]) (fun _=>dA v n (AH m (m - a) (b - m) d)):=by
 intro Fz hX hF;refine V.enter _ Tryz.func267 (Mem.startX hX hF) ?_
 repeat refine W ?_
 refine V.re 10 (v:=I J ((m:Int) - a)) (v':=I J (m - a:Nat)) (by congr 1;omega) ?_;refine V.re 11 (v:=I J ((b:Int) - m)) (v':=I J (b - m:Nat)) (by congr 1;omega) ?_;refine V.loop (ι:=Nat×Nat×Array IP) (fun p=>0<p.1/\0<p.2.1/\p.1<=m/\m+p.2.1<=n/\p.2.2.size=n/\AH m p.1 p.2.1 p.2.2=AH m (m - a) (b - m) d) (fun p=>Mem Fz w [dA v n p.2.2]) (fun p=>[(10,I J p.1),(11,I J p.2.1),(0,v),(2,I J m),(4,fn)]) (fun p=>p.1+p.2.1) (m - a,b - m,d) ⟨by dsimp only;omega,by dsimp only;omega,by dsimp only;omega,by dsimp only;omega,hs,rfl⟩ (fun w h=>h) ⟨rfl,rfl,rfl,rfl,rfl,trivial⟩ ?_;rintro⟨i,j,e⟩ ⟨hi,hj,him,hjm,hes,he⟩;dsimp only at hi hj him hjm hes he
 repeat refine W ?_
 refine V.if (fun ht=>?_) (fun hf=>?_)
 ·have hij:i≠j:=fun e=>by subst e;simp at ht
  repeat refine W ?_
  refine V.ifp (fun hgt=>?_) (fun hle=>?_)
  ·have hgt:j<i:=by omega
   repeat refine W ?_
   refine R.re 27 (v:=I J ((m:Int) - i)) (v':=I J (m - i:Nat)) (by congr 1;omega) ?_
   repeat refine W ?_
   refine R.cw (fun w' h'=>OQ n v fn (m - i) m j e w' hes (by omega) (by omega) hn) (fun _=>?_)
   repeat refine W ?_
   refine V.re 10 (v:=I J ((i:Int) - j)) (v':=I J (i - j:Nat)) (by congr 1;omega) ?_;refine V.again (i - j,j,DX (m - i) m j e) rfl ⟨by dsimp only;omega,hj,by dsimp only;omega,hjm,by rw[Ez,hes],by rw[<- he,L5 hj hgt]⟩
  ·have hlt:i<j:=by omega
   repeat refine W ?_
   refine R.re 38 (v:=I J ((m:Int) - i)) (v':=I J (m - i:Nat)) (by congr 1;omega) ?_
   repeat refine W ?_
   refine R.re 43 (v:=I J ((m:Int)+j - i)) (v':=I J (m+j - i:Nat)) (by congr 1;omega) ?_
   repeat refine W ?_
   refine R.cw (fun w' h'=>OQ n v fn (m - i) (m+j - i) i e w' hes (by omega) (by omega) hn) (fun _=>?_)
   repeat refine W ?_
   refine V.re 11 (v:=I J ((j:Int) - i)) (v':=I J (j - i:Nat)) (by congr 1;omega) ?_;refine V.again (i,j - i,DX (m - i) (m+j - i) i e) rfl ⟨hi,by dsimp only;omega,him,by dsimp only;omega,by rw[Ez,hes],by rw[<- he,Ma hi hlt]⟩
 ·have hij:i=j:=by simp at hf;omega
  subst hij
  repeat refine W ?_
  refine R.re 53 (v:=I J ((m:Int) - i)) (v':=I J (m - i:Nat)) (by congr 1;omega) ?_
  repeat refine W ?_
  refine R.cw (fun w' h'=>OQ n v fn (m - i) m i e w' hes (by omega) (by omega) hn) (fun _=>?_)
  repeat refine W ?_
  refine V.end fun w' h'=>?_;rw[<- he,Mt hi];exact⟨(),rfl,Mem.toW h'.sel⟩
end
section
set_option maxHeartbeats 4000000
open Go.Sort (swp PermIn SortedIn SWO)
set_option maxRecDepth 100000
abbrev FO (x y:IP):Bool:=decide (CM x.1 y.1<0)
theorem Aap:SWO FO where
 irrefl x:=by
  have:=AP.sym x.1 x.1;simp;omega
 trans x y z h1 h2:=by
  simp at h1 h2 |-;have k1:=AP.rng x.1 y.1;have k2:=AP.rng y.1 z.1;have:=AP.tr x.1 y.1 z.1 (by omega) (by omega);omega
 ntrans x y z h1 h2:=by
  simp at h1 h2 |-;have k1:=AP.sym x.1 y.1;have k2:=AP.sym y.1 z.1;have k3:=AP.sym x.1 z.1;have r1:=AP.rng x.1 y.1;have r2:=AP.rng y.1 z.1;have r3:=AP.rng x.1 z.1;rcases r1 with e | e | e
  ·omega
  ·have:=(AP.eq _ _).1 e;rw[this];exact h2
  ·rcases r2 with e2 | e2 | e2
   ·omega
   ·have:=(AP.eq _ _).1 e2;rw[<- this];exact h1
   ·have:=AP.tr z.1 y.1 x.1 (by omega) (by omega);omega
theorem IC (i j:Nat) (h:i+j<=4000000):IntKind.i64.wrap (IntKind.u64.wrap ((i:Int)+j) / 2)=((i+j) / 2:Nat):=by
 rw[show IntKind.u64.wrap ((i:Int)+j)=(i:Int)+j by simp[IntKind.wrap,IntKind.bits,IntKind.signed];omega];rw[IntKind.wrap_i64];omega
abbrev Tn:Value:=.func (.func 182) #[] #[]
abbrev WV (a b:Nat) (d:Array IP):Type:={e:Array IP // PermIn a b d e/\SortedIn FO a b e}
theorem Aac (hC:Iu) (n:Nat) (v:Value) (a b:Nat) (d:Array IP) (w:Y) (hs:d.size=n) (hab:a+1<b) (hb:b<=n) (hn:n<=1000000) (hr:SortedIn FO (a+1) b d):
  B9 Tryz.prog 245 #[v,I J a,I J (a+1:Nat),I J b,Tn] w (dA v n d) (fun _:WV a b d=>.tuple #[]) (fun e=>dA v n e.1):=by
 intro Fz hX hF;obtain⟨PA,pc,rfl,hPA⟩:=Gz (Mem.startX hX hF) hs;obtain⟨g,rfl⟩:=hPA (by omega);obtain⟨p,hp⟩:∃ p:Nat->Bool,∀ h,p h=FO d[h]! d[a]! :=⟨_,fun _=>rfl⟩
 have hL:=Aah Aap (a:=a) (b:=b) (d:=d) (by omega) (by omega) hr;rw[show(fun h=>FO d[h]! d[a]!)=p from(funext hp).symm] at hL;refine V.enter _ Tryz.func245 (Mem.startX hX hF) ?_
 repeat refine W ?_
 refine V.if (fun _=>?_) (fun hf=>?_)
 ·repeat refine W ?_
  refine V.loop (ι:=Nat×Nat) (fun q=>a+1<=q.1/\q.1<=q.2/\q.2<=b/\AO p q.1 q.2=AO p (a+1) b) (fun _=>Mem Fz w [dA (Z (F ⟨g,0,O⟩) n pc) n d]) (fun q=>[(10,I J q.1),(11,I J q.2),(0,Z (F ⟨g,0,O⟩) n pc),(1,I J a),(4,Tn)]) (fun q=>q.2 - q.1) (a+1,b) ⟨by dsimp only;omega,by dsimp only;omega,by dsimp only;omega,rfl⟩ (fun w h=>h) ⟨rfl,rfl,rfl,rfl,rfl,trivial⟩ ?_;rintro⟨i,j⟩ ⟨h1,h2,h3,h4⟩;dsimp only at h1 h2 h3 h4
  repeat refine W ?_
  refine V.ifp (fun hlt=>?_) (fun hge=>?_)
  ·have hlt:i<j:=by omega
   repeat refine W ?_
   refine R.re 42 (v:=I J (IntKind.i64.wrap (IntKind.u64.wrap ((i:Int)+j) / 2))) (v':=I J ((i+j) / 2:Nat)) (by rw[IC i j (by omega)]) ?_;refine R.re 12 (v:=I J (IntKind.i64.wrap (IntKind.u64.wrap ((i:Int)+j) / 2))) (v':=I J ((i+j) / 2:Nat)) (by rw[IC i j (by omega)]) ?_;obtain⟨h,hh⟩:∃ h,(i+j) / 2=h:=⟨_,rfl⟩
   have hi0:i<=h/\h<j:=by omega
   rw[hh];refine R.ix (show h<n by omega) ?_;refine R.lw (v:=.agg (Ct d[h]!).toArray) ?_ ?_
   ·rw[Nat.zero_add,Eb d h (by omega)];rfl
   repeat refine W ?_
   refine R.ix (show a<n by omega) ?_;refine R.lw (v:=.agg (Ct d[a]!).toArray) ?_ ?_
   ·rw[Nat.zero_add,Eb d a (by omega)];rfl
   refine R.c (fun w' h'=>Ip hC d[h]! d[a]! w') ?_
   repeat refine W ?_
   refine V.ifp (fun hc=>?_) (fun hc=>?_)
   ·repeat refine W ?_
    refine V.again (h+1,j) rfl ⟨by dsimp only;omega,by dsimp only;omega,h3,by rw[<- h4,GJ (j:=j) hlt (by rw[hh,hp];simpa using hc),hh]⟩
   ·repeat refine W ?_
    refine V.again (i,h) rfl ⟨h1,by dsimp only;omega,by dsimp only;omega,by rw[<- h4,EC (j:=j) hlt (by rw[hh,hp];simpa using hc),hh]⟩
  ·have hij:i=j:=by omega
   subst hij;rw[DJ (by omega)] at h4;rw[<- h4] at hL;have hi1:((i:Int) - 1)=((i - 1:Nat):Int):=by omega
   repeat refine W ?_
   refine V.loop (ι:=Nat×Array IP) (fun q=>a<=q.1/\q.2.size=n/\K3 (i - 1) q.1 q.2=K3 (i - 1) a d) (fun q=>Mem Fz w [dA (Z (F ⟨g,0,O⟩) n pc) n q.2]) (fun q=>[(13,I J q.1),(10,I J i),(0,Z (F ⟨g,0,O⟩) n pc)]) (fun q=>i - 1 - q.1) (a,d) ⟨Nat.le_refl _,hs,rfl⟩ (fun w h=>h) ⟨rfl,rfl,rfl,trivial⟩ ?_;rintro⟨k,e⟩ ⟨hk,hes,he⟩;dsimp only at hk hes he
   repeat refine W ?_
   refine V.ifp (fun hlt=>?_) (fun hge=>?_)
   ·have hlt:k<i - 1:=by omega
    repeat refine W ?_
    refine R.ix (show k+1<n by omega) ?_;refine R.lw (v:=.agg (Ct e[k+1]!).toArray) ?_ ?_
    ·rw[Nat.zero_add,Eb e (k+1) (by omega)];rfl
    repeat refine W ?_
    refine R.ix (show k<n by omega) ?_;refine R.lw (v:=.agg (Ct e[k]!).toArray) ?_ ?_
    ·rw[Nat.zero_add,Eb e k (by omega)];rfl
    refine R.ix (show k<n by omega) ?_;refine R.sw (v:=.agg (Ct e[k+1]!).toArray) (xs':=(e.setIfInBounds k e[k+1]!).toList.flatMap Ct) ?_ ?_ (hp:=.inr (.inl ⟨rfl,by kernel_rfl⟩))
    ·rw[Nat.zero_add];exact Gw e k _ (by omega)
    refine R.ix (show k+1<n by omega) ?_;refine R.sw (v:=.agg (Ct e[k]!).toArray) (xs':=(swp e k (k+1)).toList.flatMap Ct) ?_ ?_ (hp:=.inr (.inl ⟨rfl,by kernel_rfl⟩))
    ·rw[Nat.zero_add];exact Gw _ (k+1) _ (by rw[Array.size_setIfInBounds];omega)
    repeat refine W ?_
    refine V.again (k+1,swp e k (k+1)) rfl ⟨by dsimp only;omega,by rw[Go.Sort.size_swp,hes],by rw[<- he,UD hlt]⟩
   ·rw[GG (by omega)] at he;rw[<- he] at hL
    repeat refine W ?_
    refine V.end fun w' h'=>?_;exact⟨⟨e,hL⟩,rfl,Mem.toW h'.sel⟩
 ·exfalso;simp at hf;omega
theorem Aav (hC:Iu) (n:Nat) (v:Value) (a m:Nat) (d:Array IP) (w:Y) (hs:d.size=n) (ham:a+1<m) (hb:m+1<=n) (hn:n<=1000000) (hl:SortedIn FO a m d):
  B9 Tryz.prog 245 #[v,I J a,I J m,I J (m+1:Nat),Tn] w (dA v n d) (fun _:WV a (m+1) d=>.tuple #[]) (fun e=>dA v n e.1):=by
 intro Fz hX hF;obtain⟨PA,pc,rfl,hPA⟩:=Gz (Mem.startX hX hF) hs;obtain⟨g,rfl⟩:=hPA (by omega);obtain⟨p,hp⟩:∃ p:Nat->Bool,∀ h,p h= !FO d[m]! d[h]! :=⟨_,fun _=>rfl⟩
 have hL:=XQ Aap (a:=a) (m:=m) (d:=d) (by omega) (by omega) hl;rw[show(fun h=> !FO d[m]! d[h]!)=p from(funext hp).symm] at hL;refine V.enter _ Tryz.func245 (Mem.startX hX hF) ?_
 repeat refine W ?_
 refine V.if (fun ht=>?_) (fun _=>?_)
 ·exfalso;simp at ht;omega
 repeat refine W ?_
 refine V.if (fun _=>?_) (fun hf=>?_)
 ·repeat refine W ?_
  refine V.loop (ι:=Nat×Nat) (fun q=>a<=q.1/\q.1<=q.2/\q.2<=m/\AO p q.1 q.2=AO p a m) (fun _=>Mem Fz w [dA (Z (F ⟨g,0,O⟩) n pc) n d]) (fun q=>[(14,I J q.1),(15,I J q.2),(0,Z (F ⟨g,0,O⟩) n pc),(2,I J m),(4,Tn)]) (fun q=>q.2 - q.1) (a,m) ⟨by dsimp only;omega,by dsimp only;omega,by dsimp only;omega,rfl⟩ (fun w h=>h) ⟨rfl,rfl,rfl,rfl,rfl,trivial⟩ ?_;rintro⟨i,j⟩ ⟨h1,h2,h3,h4⟩;dsimp only at h1 h2 h3 h4
  repeat refine W ?_
  refine V.ifp (fun hlt=>?_) (fun hge=>?_)
  ·have hlt:i<j:=by omega
   repeat refine W ?_
   refine R.re 16 (v:=I J (IntKind.i64.wrap (IntKind.u64.wrap ((i:Int)+j) / 2))) (v':=I J ((i+j) / 2:Nat)) (by rw[IC i j (by omega)]) ?_;obtain⟨h,hh⟩:∃ h,(i+j) / 2=h:=⟨_,rfl⟩
   have hi0:i<=h/\h<j:=by omega
   rw[hh];refine R.ix (show m<n by omega) ?_;refine R.lw (v:=.agg (Ct d[m]!).toArray) ?_ ?_
   ·rw[Nat.zero_add,Eb d m (by omega)];rfl
   repeat refine W ?_
   refine R.ix (show h<n by omega) ?_;refine R.lw (v:=.agg (Ct d[h]!).toArray) ?_ ?_
   ·rw[Nat.zero_add,Eb d h (by omega)];rfl
   refine R.c (fun w' h'=>Ip hC d[m]! d[h]! w') ?_
   repeat refine W ?_
   refine V.if (fun hc=>?_) (fun hc=>?_)
   ·repeat refine W ?_
    refine V.again (h+1,j) rfl ⟨by dsimp only;omega,by dsimp only;omega,h3,by rw[<- h4,GJ (j:=j) hlt (by rw[hh,hp];simpa using hc),hh]⟩
   ·repeat refine W ?_
    refine V.again (i,h) rfl ⟨h1,by dsimp only;omega,by dsimp only;omega,by rw[<- h4,EC (j:=j) hlt (by rw[hh,hp];simpa using hc),hh]⟩
  ·have hij:i=j:=by omega
   subst hij;rw[DJ (by omega)] at h4;rw[<- h4] at hL
   repeat refine W ?_
   refine V.loop (ι:=Nat×Array IP) (fun q=>i<=q.1/\q.1<=m/\q.2.size=n/\DR i q.1 q.2=DR i m d) (fun q=>Mem Fz w [dA (Z (F ⟨g,0,O⟩) n pc) n q.2]) (fun q=>[(17,I J q.1),(14,I J i),(0,Z (F ⟨g,0,O⟩) n pc)]) (fun q=>q.1) (m,d) ⟨h3,Nat.le_refl _,hs,rfl⟩ (fun w h=>h) ⟨rfl,rfl,rfl,trivial⟩ ?_;rintro⟨k,e⟩ ⟨hk,hkm,hes,he⟩;dsimp only at hk hkm hes he
   repeat refine W ?_
   refine V.ifp (fun hlt=>?_) (fun hge=>?_)
   ·have hlt:i<k:=by omega
    obtain⟨k,rfl⟩:∃ t,k=t+1:=⟨k - 1,by omega⟩
    repeat refine W ?_
    refine R.re 120 (v:=I J ((k:Int)+1 - 1)) (v':=I J k) (by congr 1;omega) ?_;refine R.re 117 (v:=I J ((k:Int)+1 - 1)) (v':=I J k) (by congr 1;omega) ?_;refine R.ix (show k<n by omega) ?_;refine R.lw (v:=.agg (Ct e[k]!).toArray) ?_ ?_
    ·rw[Nat.zero_add,Eb e k (by omega)];rfl
    repeat refine W ?_
    refine R.ix (show k+1<n by omega) ?_;refine R.lw (v:=.agg (Ct e[k+1]!).toArray) ?_ ?_
    ·rw[Nat.zero_add,Eb e (k+1) (by omega)];rfl
    refine R.ix (show k+1<n by omega) ?_;refine R.sw (v:=.agg (Ct e[k]!).toArray) (xs':=(e.setIfInBounds (k+1) e[k]!).toList.flatMap Ct) ?_ ?_ (hp:=.inr (.inl ⟨rfl,by kernel_rfl⟩))
    ·rw[Nat.zero_add];exact Gw e (k+1) _ (by omega)
    refine R.ix (show k<n by omega) ?_;refine R.sw (v:=.agg (Ct e[k+1]!).toArray) (xs':=(swp e (k+1) k).toList.flatMap Ct) ?_ ?_ (hp:=.inr (.inl ⟨rfl,by kernel_rfl⟩))
    ·rw[Nat.zero_add];exact Gw _ k _ (by rw[Array.size_setIfInBounds];omega)
    repeat refine W ?_
    refine V.again (k,swp e (k+1) k) rfl ⟨by dsimp only;omega,by dsimp only;omega,by rw[Go.Sort.size_swp,hes],by rw[<- he,NW hlt]⟩
   ·rw[Ku (by omega)] at he;rw[<- he] at hL
    repeat refine W ?_
    refine V.end fun w' h'=>?_;exact⟨⟨e,hL⟩,rfl,Mem.toW h'.sel⟩
 ·exfalso;simp at hf;omega
end
end Go.Proofs.YtdpppepmkeinaaaGreatDoor
