/- What is proved: a part of the walk of the program and of its plain laws; no condition beside those that each theorem names. -/
import Derived.Test.YtdpppepmkeinaaaGreatDoorYxq
import Derived.Test.YtdpppepmkeinaaaGreatDoorYy
import Derived.Test.YtdpppepmkeinaaaGreatDoorYa
namespace Go.Proofs.YtdpppepmkeinaaaGreatDoor
open Go Go.RowKit Go.Lib
open Go.Value renaming int->I,string->Q,slice->Z
open Go.IntKind renaming i64->J
open Option renaming none->O,some->F
open _root_.Go renaming World->Y
set_option linter.unusedSimpArgs false
set_option linter.unusedVariables false
set_option linter.unusedSectionVars false
section
set_option maxHeartbeats 8000000
set_option maxRecDepth 100000
def syL (tx:Sc->List UInt8) (cls:List Int) (s:List (Nat×Nd)):List Say:=s.map fun p=>Ac3 tx cls p.2
theorem Pz {κ:Type} [DecidableEq κ]:∀ (l:List κ) (m:List (κ×Int)) (x:κ),Ls (l++[x]) m=Ls l m++[(AT x (Dn (Fy l m) x)).getD 0]
 | [],m,x=>rfl
 | s::r,m,x=>by
  show _::Ls (r++[x]) (Dn m s)=_;rw[Pz r];rfl
theorem Xg {κ β:Type} [DecidableEq κ] (x:κ) (v:β):∀ m:List (κ×β),(mput x v m).length<=m.length+1
 | []=>Nat.le_refl _
 | (y,u)::r=>by
  unfold mput;split
  ·simp
  ·have:=Xg x v r;simp only[List.length_cons];omega
theorem JL {κ:Type} [DecidableEq κ]:∀ (l:List κ) (m:List (κ×Int)),(Fy l m).length<=m.length+l.length
 | [],m=>Nat.le_refl _
 | s::r,m=>by
  have h1:=JL r (Dn m s);have h2:(Dn m s).length<=m.length+1:=by
   unfold Dn;split
   ·omega
   ·exact Xg s _ m
  show(Fy r (Dn m s)).length<=m.length+(r.length+1)
  omega
theorem Yd {κ:Type} [DecidableEq κ] (l:List κ) (m:List (κ×Int)) (x:κ):Fy (l++[x]) m=Dn (Fy l m) x:=by unfold Fy;rw[List.foldl_append];rfl
theorem U3 {tx:Sc->List UInt8} {cls:List Int} {ns:List Nd} {k i:Nat} {x:Nd} (h:(Ft tx cls ns)[k]? =F (i,x)):i=k/\ns[k]? =F x:=by
 simp only[Ft,List.getElem?_map,List.getElem?_zipIdx,Option.map_map] at h;cases hk:ns[k]? with
 | none=>rw[hk] at h;cases h
 | some y=>rw[hk] at h;simp at h;obtain⟨rfl,rfl⟩:=h;exact⟨rfl,rfl⟩
theorem U6 {α β:Type} (f:α->β) (l:List α):(l.zipIdx.map ((fun p:Nat×α=>f p.2) ∘ fun p=>(p.2,p.1)))=l.map f:=by
 apply List.ext_getElem?;intro j;simp[List.getElem?_map,List.getElem?_zipIdx];cases l[j]? <;>rfl
theorem Zb (wB:Y) (tx:Sc->List UInt8) (pb:Nat) (A CA:Option Addr) (c cc:Nat) (g:Gf) (cls:List Int) (w:Y) (hP:Aa3 wB tx g.nodes cls.length) (hcl:cls.length=g.nodes.length) (hcr:∀ n∈cls,0<=n/\n<=1000000) (h0:0<cls.length) (hB:Below wB.heap.size wB w):
  Ex Tryz.prog 85 #[.pointer (F ⟨pb,0,O⟩)] w (MC wB pb A CA c cc g cls) (fun _:Unit=>I J (UJ tx g.nodes cls)) (fun _=>MC wB pb A CA c cc g (J2 tx g.nodes cls)):=by
 intro Fz hX hF;have hlen:=hP.len;have hPF:ON w (fun b=>b<w.heap.size) pb A CA c cc g cls:=(MC.part hX hB).to fun b o v hb hv=>⟨hv,hb.elim (hF b) (fun h=>Nat.lt_of_lt_of_le h hB.size)⟩
 obtain⟨hpb,hpn,_,_⟩:=id hPF;refine V.enter _ Tryz.func85 (Mem.start (C:=A5) w) ?_
 repeat refine W ?_
 refine R.mkm (κ:=Say) Hb fun mb hm=>?_;refine R.new fun b3 h3=>?_
 repeat refine W ?_
 refine R.lo 2 hpb ?_
 repeat refine W ?_
 refine R.bo (m:=cls.length) (sz:=1) (cs:=List.replicate cls.length (I J 0)) (bt:=3) (by simp) (by omega) (fun nb hnb=>?_) (hv:=fun ρ w h=>?_)
 ·refine R.new fun b4 h4=>?_
  repeat refine W ?_
  refine R.cf (fun w' h'=>Y0 pb w') (fun gb=>?_)
  repeat refine W ?_
  refine V.range (Ajp wB tx gb pb A CA c cc g cls hP hcr) (fun s=>[blk b3 [.map (F mb)] 250,MZ Hb mb (Ce (I J) (Fy (syL tx cls s) [])),blk b4 [Z (F ⟨nb,0,O⟩) cls.length cls.length] 38,An 3 1 (Z (F ⟨nb,0,O⟩) cls.length cls.length) cls.length ((Ls (syL tx cls s) []++List.replicate (cls.length - s.length) 0).map (I J))]) (fun co s=>[pr False])
   (fun w h=>by
    have e:(([]:List Int)++List.replicate (cls.length - 0) 0).map (Value.int .i64)=List.replicate cls.length (I J 0):=by simp
    show Mem A5 _ ([_]++[_,_,_,An _ 1 _ _ ((([]:List Int)++List.replicate (cls.length - 0) 0).map (Value.int .i64))]) w;rw[e];exact h.sel) (fun w1 w2 G h hb hG=>?_) (fun r pre x Wb C' T T' Rl hadm hx hC hm=>?_) (fun D xs hf=>?_) (fun D co s=>?_)
  ·have hx:B4 A5 w w2:=h.1.trans (C':=A5) (B4.of_below hb) (fun _ _ e=>e);exact⟨B4.belowB hB (Fz:=A5) (fun b hb=>hb.elim) hx,fun b hb=>(hG b hb).elim (fun h=>Nat.le_trans hB.size h) (fun e=>e.elim),hPF.to fun b o v hb hv=>⟨hx.cell hv (fun e=>e),fun hg=>(hG b hg).elim (fun h=>by omega) (fun e=>e.elim)⟩⟩
  ·obtain⟨i,x1⟩:=x;obtain⟨rfl,hx1⟩:=U3 hadm;have hlt:=(List.getElem?_eq_some_iff.1 hx1).1;have hyE:Hb (Ac3 tx cls x1)=.agg (Ahx tx cls x1).toArray:=rfl;obtain⟨y,hy⟩:∃ y,Ac3 tx cls x1=y:=⟨_,rfl⟩
   rw[hy] at hyE;dsimp only
   rw[<- hyE];have hsn:syL tx cls (pre++[(pre.length,x1)])=syL tx cls pre++[y]:=by unfold syL;rw[List.map_append,List.map_singleton,hy]
   rw[hsn,Pz,Yd];obtain⟨l1,hl1⟩:∃ l1,syL tx cls pre=l1:=⟨_,rfl⟩
   have hll:l1.length=pre.length:=by rw[<- hl1];unfold syL;rw[List.length_map]
   rw[hl1]
   repeat refine W ?_
   refine R.new fun b6 h6=>?_
   repeat refine W ?_
   obtain⟨m,hmm⟩:∃ m,Fy l1 []=m:=⟨_,rfl⟩
   have hml:m.length<=1000:=by
    have:=JL l1 [];rw[hmm,List.length_nil] at this;omega
   obtain⟨q,hq⟩:∃ q,cls.length - pre.length=q+1:=⟨cls.length - pre.length - 1,by omega⟩
   have hq2:cls.length - (pre++[(pre.length,x1)]).length=q:=by rw[List.length_append,List.length_singleton];omega
   have hst:=QG (Ls l1 []) (List.replicate q 0) 0 ((AT y (Dn m y)).getD 0);rw[Ns,hll] at hst;rw[hmm,hq,hq2,List.replicate_succ];refine V.mid hm ?_
   repeat refine W ?_
   refine R.look (e:=3) y Qd ?_;refine R.re 23 (v:=lkV true (I J 0) (AT y (Ce (Value.int .i64) m))) (v':=.tuple #[I J ((AT y m).getD 0),.bool (AT y m).isSome]) (by rw[SJ,FJ];cases AT y m<;>rfl) ?_
   repeat refine W ?_
   refine V.if (fun hn=>?_) (fun hn=>?_)
   ·have ha:Dn m y=mput y (m.length:Int) m:=by unfold Dn;rw[if_neg (by simpa using hn)]
    repeat refine W ?_
    refine R.lenm (m:=Ce (Value.int .i64) m) (k:=255) (e:=3) ?_ (hn:=by unfold Ce;rw[List.length_map];omega);refine R.re 31 (v:=I J (Ce (Value.int .i64) m).length) (v':=I J (m.length:Int)) (by unfold Ce;rw[List.length_map]) ?_;refine R.mput (e:=3) y Qd ?_;rw[L3,<- ha]
    repeat refine W ?_
    refine R.look (e:=3) y Qd ?_;refine R.re 36 (v:=lkV false (I J 0) (AT y (Ce (Value.int .i64) (Dn m y)))) (v':=I J ((AT y (Dn m y)).getD 0)) (by rw[Lq,FJ];cases AT y (Dn m y)<;>rfl) ?_;refine R.ix (show pre.length<cls.length by omega) ?_;refine R.sw (v:=I J ((AT y (Dn m y)).getD 0)) (xs':=(Ls l1 []++(AT y (Dn m y)).getD 0::List.replicate q 0).map (I J)) ?_ ?_ (hp:=.inr (.inl ⟨rfl,by kernel_rfl⟩))
    ·rw[Nat.zero_add,Nat.mul_one];exact hst
    repeat refine W ?_
    rw[List.append_assoc];exact V.rn
   ·have ha:Dn m y=m:=by unfold Dn;rw[if_pos (by simpa using hn)]
    repeat refine W ?_
    refine R.look (e:=3) y Qd ?_;refine R.re 36 (v:=lkV false (I J 0) (AT y (Ce (Value.int .i64) m))) (v':=I J ((AT y (Dn m y)).getD 0)) (by rw[Lq,FJ,ha];cases AT y m<;>rfl) ?_;refine R.ix (show pre.length<cls.length by omega) ?_;refine R.sw (v:=I J ((AT y (Dn m y)).getD 0)) (xs':=(Ls l1 []++(AT y (Dn m y)).getD 0::List.replicate q 0).map (I J)) ?_ ?_ (hp:=.inr (.inl ⟨rfl,by kernel_rfl⟩))
    ·rw[Nat.zero_add,Nat.mul_one];exact hst
    repeat refine W ?_
    rw[ha,List.append_assoc];exact V.rn
  ·subst hf;have hsy:syL tx cls (Ft tx cls g.nodes)=Fu tx g.nodes cls:=by
    unfold syL Ft Fu;rw[List.map_map];exact U6 (Ac3 tx cls) g.nodes
   rw[hsy,JF,show cls.length - g.nodes.length=0 by omega,List.replicate_zero,List.append_nil];have hrl:(J2 tx g.nodes cls).length=cls.length:=by unfold J2 Fu;rw[Ns,List.length_map,hcl]
   obtain⟨CA',hCA⟩:∃ g,CA=F ⟨g,0,O⟩:=by
    obtain⟨F1,_,_,F2,h2,_⟩:=hX;rcases h2.1.2 with ⟨_,e0⟩ | ⟨g,cap,cur,e,_⟩
    ·omega
    ·injection e with e;exact⟨g,e⟩
   subst hCA;refine V.pre (S':=Mem Fz w (Vv wB pb A (F ⟨CA',0,O⟩) c cc g cls++[blk b3 [.map (F mb)] 250,MZ Hb mb (Ce (I J) (Fy (Fu tx g.nodes cls) [])),blk b4 [Z (F ⟨nb,0,O⟩) cls.length cls.length] 38,An 3 1 (Z (F ⟨nb,0,O⟩) cls.length cls.length) cls.length ((J2 tx g.nodes cls).map (I J)),Q3 D (.deferred (F []))])) ?_ (fun w' h'=>(Mem.held (X:=MC wB pb A (F ⟨CA',0,O⟩) c cc g cls) (A:=[blk b3 [.map (F mb)] 250,MZ Hb mb (Ce (I J) (Fy (Fu tx g.nodes cls) [])),blk b4 [Z (F ⟨nb,0,O⟩) cls.length cls.length] 38,An 3 1 (Z (F ⟨nb,0,O⟩) cls.length cls.length) cls.length ((J2 tx g.nodes cls).map (I J)),Q3 D (.deferred (F []))]) h'.sel hX hF).star);show V _ _ _ _ _ _ (Mem Fz w [blk pb _ _,An _ _ _ _ _,grW _ _ _,blk b3 _ _,MZ _ _ _,blk b4 _ _,An _ _ _ _ _,Q3 D _]) _
   repeat refine W ?_
   have hml:=JL (Fu tx g.nodes cls) [];have hsl:(Fu tx g.nodes cls).length=g.nodes.length:=by unfold Fu;rw[List.length_map]
   rw[hsl,List.length_nil] at hml;refine R.cp (e:=3) (c:=cc) (sc:=cls.length) (xs:=cls.map (I J)) (ys:=(J2 tx g.nodes cls).map (I J)) (ad:=⟨nb,0,O⟩) (by rw[List.length_map,hrl]) (fun w' h'=>?_) (fun u hu=>List.all_eq_true.1 (Un _) u hu) ?_
   ·obtain⟨F1,h1,_⟩:=h'.has (List.Mem.tail _ (List.Mem.tail _ (List.Mem.tail _ (List.Mem.tail _ (List.Mem.tail _ (List.Mem.tail _ (List.Mem.head _)))))));exact(An.cs h1).add
   repeat refine W ?_
   refine R.lenm (m:=Ce (Value.int .i64) (Fy (Fu tx g.nodes cls) [])) (k:=255) (e:=3) ?_ (hn:=by unfold Ce;rw[List.length_map];omega)
   repeat refine W ?_
   refine V.end fun w' h'=>?_;refine⟨(),by unfold Ce;rw[List.length_map];rfl,Mem.toW ?_⟩;refine Mem.toStar (B:=Vv wB pb A (F ⟨CA',0,O⟩) c cc g (J2 tx g.nodes cls)) (A:=[]) ?_;unfold Vv;rw[hrl];exact h'.sel
  ·repeat refine W ?_
   refine V.prop (p:=False) fun h=>h.elim
 ·simp only[Op.operands,GD,List.map_cons,List.map_nil] at h;simp[execOp,h,mkI _ _ (show cls.length<=1000000 by omega)]
end
section
set_option maxHeartbeats 8000000
set_option maxRecDepth 100000
theorem Kw (tx:Sc->List UInt8) (ns:List Nd) (c:List Int):(J2 tx ns c).length=ns.length:=by unfold J2 Fu;rw[Ns,List.length_map]
theorem T6 {tx:Sc->List UInt8} {ns:List Nd} {c:List Int} (hn:ns.length<=1000):∀ n∈J2 tx ns c,0<=n/\n<=1000000:=fun n h=>by
 have:=Aab h;unfold Fu at this;rw[List.length_map] at this;omega
theorem WN (tx:Sc->List UInt8) (ns:List Nd) (c:List Int):UJ tx ns c<=ns.length:=by
 have:=JL (Fu tx ns c) [];unfold Fu at this;rw[List.length_map,List.length_nil] at this;unfold UJ Fu;omega
theorem VP (wB:Y) (tx:Sc->List UInt8) (pb:Nat) (A CA:Option Addr) (c cc:Nat) (g:Gf) (w:Y) (hP:Aa3 wB tx g.nodes g.nodes.length) (h0:0<g.nodes.length) (hB:Below wB.heap.size wB w):
  Dm Tryz.prog 58 #[.pointer (F ⟨pb,0,O⟩)] w (MC wB pb A CA c cc g (QC g.nodes.length)) (Hx wB) (fun _:Unit=>Z CA g.nodes.length cc) (fun _=>MC wB pb A CA c cc g (Tq tx g.nodes)):=by
 intro Fz hX hF hQ;have hlen:=hP.len;have hR:=fun(cls:List Int) (w':Y) (hc:cls.length=g.nodes.length) (hr:∀ n∈cls,0<=n/\n<=1000000) (hB':Below wB.heap.size wB w')=>Zb wB tx pb A CA c cc g cls w' (by rw[hc];exact hP) hc hr (by omega) hB';have hz:(QC g.nodes.length).length=g.nodes.length:=by unfold QC;simp
 have hzr:∀ n∈QC g.nodes.length,(0:Int)<=n/\n<=1000000:=fun n hn=>by unfold QC at hn;rw[(List.mem_replicate.1 hn).2];omega
 refine V.enter _ Tryz.func58 (Mem.startX hX hF) ?_
 repeat refine W ?_
 refine R.cw (fun w' h'=>hR (QC g.nodes.length) w' hz hzr (B4.belowB hB hQ h'.1)) (fun _=>?_)
 repeat refine W ?_
 refine V.loop (ι:=Nat×Nat×Nat×List Int) (fun p=>g.nodes.length+1<=p.1+p.2.1/\p.2.2.1<=g.nodes.length/\p.2.2.2.length=g.nodes.length/\(∀ n∈p.2.2.2,0<=n/\n<=1000000)/\VL tx g.nodes p.1 p.2.1 p.2.2.1 p.2.2.2=Tq tx g.nodes) (fun p=>Mem Fz w [MC wB pb A CA c cc g p.2.2.2])
  (fun p=>[(4,I J p.2.1),(5,I J p.2.2.1),(3,.func (.func 85) #[.pointer (F ⟨pb,0,O⟩)] #[]),(0,.pointer (F ⟨pb,0,O⟩))]) (fun p=>p.1) (g.nodes.length+1,0,UJ tx g.nodes (QC g.nodes.length),J2 tx g.nodes (QC g.nodes.length)) ⟨by omega,WN ..,Kw ..,T6 hlen,rfl⟩ (fun w h=>h) ⟨rfl,rfl,rfl,rfl,trivial⟩ ?_
 rintro⟨f,n,more,cls⟩ ⟨hf,hm,hcl,hcr,hr⟩;dsimp only at hf hm hcl hcr hr
 repeat refine W ?_
 refine V.ifp (fun hlt=>?_) (fun hge=>?_)
 ·have hlt:n<more:=by omega
  obtain⟨f',rfl⟩:∃ f',f=f'+1:=⟨f - 1,by omega⟩
  unfold VL at hr;rw[if_pos hlt] at hr
  repeat refine W ?_
  refine R.cw (fun w' h'=>hR cls w' hcl hcr (B4.belowB hB hQ h'.1)) (fun _=>?_)
  repeat refine W ?_
  exact V.again (f',more,UJ tx g.nodes cls,J2 tx g.nodes cls) rfl ⟨by dsimp only;omega,WN ..,Kw ..,T6 hlen,hr⟩
 ·have hge:¬n<more:=by omega
  have hcr2:cls=Tq tx g.nodes:=by
   rw[<- hr];cases f with
   | zero=>rfl
   | succ f=>unfold VL;rw[if_neg hge]
  refine V.star ?_;show V _ _ _ _ _ _ (Mem Fz w [blk pb _ _,An _ _ _ _ _,grW _ _ _]) _
  repeat refine W ?_
  refine V.end fun w' h'=>?_;refine⟨(),by rw[hcl];rfl,Mem.toW ?_⟩;rw[<- hcr2];exact Mem.toStar (B:=Vv wB pb A CA c cc g cls) (A:=[]) h'.sel
end
section
set_option maxHeartbeats 2000000
set_option maxRecDepth 100000
theorem Aey (root:Int) (A:Option Addr) (n c:Nat) (w:Y) (hn:n<=1000):
  Calls Tryz.prog 56 #[.agg #[I J root,Z A n c]] w fun e w'=>∃ q:Nat×Nat,e=.returned (.pointer (F ⟨q.1,0,O⟩))/\Fr w w' [blk q.1 [I J root,Z A n c,Z (F ⟨q.2,0,O⟩) n n] 182,An 3 1 (Z (F ⟨q.2,0,O⟩) n n) n ((QC n).map (I J))]:=by
 refine V.enter _ Tryz.func56 (Mem.start (C:=A5) w) ?_;refine W ?_;refine R.new fun b1 h1=>?_
 repeat refine W ?_
 refine R.bo (m:=n) (sz:=1) (cs:=List.replicate n (I J 0)) (bt:=3) (by simp) (by omega) (fun nb hnb=>?_) (hv:=fun ρ w h=>?_)
 ·repeat refine W ?_
  refine R.new fun b2 h2=>?_
  repeat refine W ?_
  refine V.end fun w' h'=>?_;refine⟨(b2,nb),rfl,?_⟩;have e:(QC n).map (Value.int .i64)=List.replicate n (I J 0):=by unfold QC;simp
  rw[e];exact(h'.sel:Mem A5 w [_,_] w').to_fr
 ·simp only[Op.operands,GD,List.map_cons,List.map_nil] at h;simp[execOp,h,mkI _ _ (show n<=1000000 by omega)]
end
section
set_option maxHeartbeats 2000000
set_option maxRecDepth 100000
def NdP (w:Y) (S:Nat->Prop) (x:Nd) (p:Value×Value):Prop:=∃ (KA:Option Addr) (kc:Nat) (IA:Option Addr) (ic:Nat),p=(Z KA x.keys.length kc,Z IA x.kids.length ic)/\GZ w S KA x.keys/\Ja w S IA x.kids
theorem Fa.cells {w:Y} {S:Nat->Prop} {b:Nat}:∀ {ns:List Nd} {o:Nat},Fa w S (F ⟨b,o,O⟩) ns->∃ vs:List (Value×Value),vs.length=ns.length/\Cs w b o (BE ns vs)/\∀ (j:Nat) x p,ns[j]? =F x->vs[j]? =F p->NdP w S x p
 | [],o,h=>⟨[],rfl,(fun j v hv=>by cases hv),(fun j x p hx=>by cases hx)⟩
 | y::r,o,h=>by
  obtain⟨b',o',KA,kc,IA,ic,e,_,hc,hk,hi⟩:=h 0 y rfl;cases e
  have hr:Fa w S (F ⟨b,o+6,O⟩) r:=fun j x hj=>by
   obtain⟨b',o',KA,kc,IA,ic,e,hb,hc,hk,hi⟩:=h (j+1) x hj;cases e
   exact⟨b,o+6,KA,kc,IA,ic,rfl,hb,by rwa [show o+6+j*6=o+(j+1)*6 by omega],hk,hi⟩
  obtain⟨vs,h1,h2,h3⟩:=Fa.cells hr;refine⟨(Z KA y.keys.length kc,Z IA y.kids.length ic)::vs,by simp[h1],fun j v hv=>?_,fun j x p hx hp=>?_⟩
  ·rw[BE] at hv;by_cases hj:j<6
   ·rw[List.getElem?_append_left (by rw[IH];exact hj)] at hv;have:=hc j v hv
    rwa [Nat.zero_mul,Nat.add_zero] at this
   ·rw[List.getElem?_append_right (by rw[IH];omega),IH] at hv;have:=h2 (j - 6) v hv
    rwa [show o+6+(j - 6)=o+j by omega] at this
  ·cases j with
   | zero=>cases hx;cases hp;exact⟨KA,kc,IA,ic,rfl,hk,hi⟩
   | succ j=>exact h3 j x p hx hp
theorem SE {w:Y} {S:Nat->Prop}:∀ (ns:List Nd) (vs:List (Value×Value)),vs.length=ns.length->(∀ (j:Nat) x p,ns[j]? =F x->vs[j]? =F p->NdP w S x p)->(BE ns vs).all Value.oneCell'=true
 | [],[],_,_=>rfl
 | y::r,q::t,h,hp=>by
  obtain⟨KA,kc,IA,ic,e,_⟩:=hp 0 y q rfl rfl;rw[BE,List.all_append,SE r t (by simpa using h) (fun j x p hx hpp=>hp (j+1) x p hx hpp),e];rfl
 | [],_::_,h,_=>by cases h
 | _::_,[],h,_=>by cases h
theorem VA (b o c:Nat) (ns:List Nd) (vs:List (Value×Value)) (w:Y) (hl:vs.length=ns.length) (h:Cs w b o (BE ns vs)) (h1:(BE ns vs).all Value.oneCell'=true) (hn:ns.length<=1000000):
  Calls Tryz.prog 83 #[Z (F ⟨b,o,O⟩) ns.length c] w fun e w'=>∃ v,e=.returned v/\Fr w w' [An 40 6 v ns.length (BE ns vs)]:=by
 refine V.enter _ Tryz.func83 (Mem.start (C:=A5) w) ?_
 repeat refine W ?_
 refine R.bo (m:=0) (sz:=6) (cs:=[]) rfl (by omega) fun b2 hb=>?_
 repeat refine W ?_
 refine R.app elN (k:=0) (m:=ns.length) (xs:=[]) (news:=BE ns vs) (fun w' h'=>(h'.1.cs h (fun e=>e)).add) (by omega) (fun a c=>?_) (hl:=R4 ns vs hl) (h1:=h1)
 repeat refine W ?_
 refine V.end fun w' h'=>?_;rw[Nat.zero_add,List.nil_append] at h';exact⟨_,rfl,(h'.sel:Mem A5 w [_] w').to_fr⟩
end
section
set_option maxRecDepth 100000
def JN (it:TypeId):List Nd->List (Value×Value)->List Aw
 | x::r,p::q=>An it 1 p.2 x.kids.length (x.kids.map (I J))::JN it r q
 | _,_=>[]
theorem Uk {it:TypeId} {w:Y}:∀ {ns:List Nd} {vs:List (Value×Value)} {j:Nat} {x:Nd} {p:Value×Value} {G:Nat->Prop},Cq (JN it ns vs) w G->ns[j]? =F x->vs[j]? =F p->∃ Fz,(∀ b,Fz b->G b)/\(isA p.2 x.kids).is Fz w
 | y::r,q::t,0,x,p,G,h,hx,hp=>by
  cases hx;cases hp
  obtain⟨Fz,h1,h2,_⟩:=h;exact⟨Fz,h2,An.is' h1 rfl⟩
 | y::r,q::t,j+1,x,p,G,h,hx,hp=>by
  obtain⟨Fz,h1,h2,h3⟩:=h;obtain⟨F4,b1,b2⟩:=Uk h3 (j:=j) hx hp;exact⟨F4,fun b hb=>(b1 b hb).1,b2⟩
 | [],_,j,x,p,G,h,hx,hp=>by cases hx
 | _::_,[],j,x,p,G,h,hx,hp=>by cases hp
theorem TM {it:TypeId}:∀ (ns:List Nd) (vs:List (Value×Value)) (x:Nd) (p:Value×Value),vs.length=ns.length->JN it (ns++[x]) (vs++[p])=JN it ns vs++[An it 1 p.2 x.kids.length (x.kids.map (I J))]
 | [],[],x,p,_=>by simp[JN]
 | y::r,q::t,x,p,h=>by
  have h1:=TM (it:=it) r t x p (by simpa using h);simp only[List.cons_append,JN,h1]
 | [],_::_,x,p,h=>by cases h
 | _::_,[],x,p,h=>by cases h
theorem Yb {nt it:TypeId} {wB w0 w:Y} {Z0:List Aw} {L:Value} {na ms:List Nd} {qs us:List (Value×Value)} (root:Int) (hq:qs.length=na.length) (hu:us.length=ms.length)
  (ha:∀ (j:Nat) x p,na[j]? =F x->qs[j]? =F p->NdP wB (fun b=>b<wB.heap.size) x p) (hm:∀ (j:Nat) x p,ms[j]? =F x->us[j]? =F p->∃ (KA:Option Addr) (kc:Nat),p.1=Z KA x.keys.length kc/\GZ wB (fun b=>b<wB.heap.size) KA x.keys)
  (h:Mem A5 w0 (An nt 6 L (na++ms).length (BE (na++ms) (qs++us))::star (JN it ms us)::Z0) w) (h0:0<(na++ms).length):
  ∃ (g c:Nat),L=Z (F ⟨g,0,O⟩) (na++ms).length c/\Mem A5 w0 (grW wB (Fx (F ⟨g,0,O⟩) c ⟨root,na++ms⟩) ⟨root,na++ms⟩::Z0) w:=by
 have hsh:=Co h (List.Mem.head _);obtain⟨g,c,rfl⟩:∃ g c,L=Z (F ⟨g,0,O⟩) (na++ms).length c:=hsh.resolve_left (fun e=>by omega);refine⟨g,c,rfl,?_⟩;have h9:=Mem.toStar (B:=[An nt 6 _ (na++ms).length (BE (na++ms) (qs++us)),star (JN it ms us)]) h;refine⟨h9.1,h9.2.as fun Fz w hs=>?_⟩;clear h9 h hsh;obtain⟨F1,h1,h2,F2,h3,h4,_⟩:=hs;have hl:(qs++us).length=(na++ms).length:=by rw[List.length_append,List.length_append,hq,hu]
 refine⟨_,c,rfl,fun j x hj=>?_⟩;dsimp only at hj;obtain⟨p,hp⟩:∃ p,(qs++us)[j]? =F p:=⟨_,List.getElem?_eq_getElem (by rw[hl];exact(List.getElem?_eq_some_iff.1 hj).1)⟩
 have hc:=(An.cs h1).drop (j*6);rw[JU _ _ j x p hl hj hp] at hc;have hcc:Cs w g (0+j*6) (Ps x p.1 p.2):=fun i v hv=>hc i v (by rw[List.getElem?_append_left (List.getElem?_eq_some_iff.1 hv).1];exact hv);have hF1:Fz g:=h2 g (h1.2 g rfl);by_cases hjl:j<na.length
 ·rw[List.getElem?_append_left hjl] at hj;rw[List.getElem?_append_left (by omega)] at hp;obtain⟨KA,kc,IA,ic,rfl,hk,hi⟩:=ha j x p hj hp;exact⟨g,0,KA,kc,IA,ic,rfl,hF1,hcc,.inr hk,.inr hi⟩
 ·rw[List.getElem?_append_right (by omega)] at hj;rw[List.getElem?_append_right (by omega),hq] at hp;obtain⟨KA,kc,e,hk⟩:=hm _ x p hj hp;obtain⟨F4,b1,IA,ic,e2,hi⟩:=Uk (show Cq (JN it ms us) w F2 from h3) hj hp;rw[e,e2] at hcc;exact⟨g,0,KA,kc,IA,ic,rfl,hF1,hcc,.inr hk,.inl (hi.to fun b o u hb hu=>⟨hu,(h4 b (b1 b hb)).1⟩)⟩
end
section
set_option maxHeartbeats 8000000
set_option maxRecDepth 100000
theorem Ae4 (b o c:Nat) (ns:List Nd) (vs:List (Value×Value)) (w:Y) (hl:vs.length=ns.length) (h:Cs w b o (BE ns vs)) (h1:(BE ns vs).all Value.oneCell'=true) (hn:ns.length<=1000000):
  Calls Tryz.prog 83 #[Z (F ⟨b,o,O⟩) ns.length c] w fun e w'=>∃ q:Option Addr×Nat,e=.returned (Z q.1 ns.length q.2)/\Fr w w' [An 40 6 (Z q.1 ns.length q.2) ns.length (BE ns vs)]:=
 (VA b o c ns vs w hl h h1 hn).mono fun e w' ⟨v,he,hf⟩=>by
  have hf2:=hf;obtain⟨_,Fz,⟨⟨_,hs⟩,_⟩,_⟩:=hf2;rcases hs with ⟨e1,e0⟩ | ⟨g,cap,cur,e1,_⟩
  ·subst e1;exact⟨(O,0),by rw[he,e0],by rw[e0];rw[e0] at hf;exact hf⟩
  ·subst e1;exact⟨(_,cap),he,hf⟩
theorem Wt (a b:Gf) (A B:Option Addr) (c c2:Nat) (wB w:Y) (hW:Below wB.heap.size wB w) (hA0:Fa wB (fun k=>k<wB.heap.size) A a.nodes) (hB0:Fa wB (fun k=>k<wB.heap.size) B b.nodes) (ha0:0<a.nodes.length) (hn:a.nodes.length<=1000/\b.nodes.length<=1000) (hk:∀ x∈b.nodes,x.kids.length<=40000/\∀ n∈x.kids,-1000000<=n/\n<=1000000):
  Calls Tryz.prog 57 #[Fx A c a,Fx B c2 b] w fun e w'=>∃ (q:Nat×Nat),e=.returned (Fx (F ⟨q.1,0,O⟩) q.2 ⟨a.root,Ge a.nodes b.nodes⟩)/\Fr w w' [grW wB (Fx (F ⟨q.1,0,O⟩) q.2 ⟨a.root,Ge a.nodes b.nodes⟩) ⟨a.root,Ge a.nodes b.nodes⟩]:=by
 have hst:∀ b o v,b<wB.heap.size->wB.cell? ⟨b,o,O⟩=F v->w.cell? ⟨b,o,O⟩=F v/\b<w.heap.size:=fun b o v hb hv=>⟨cell_below hv hW,Nat.lt_of_lt_of_le hb hW.size⟩
 have hA:=hA0.to hst;have hB:=hB0.to hst;obtain⟨x0,hx0⟩:∃ x0,a.nodes[0]? =F x0:=⟨_,List.getElem?_eq_getElem ha0⟩
 obtain⟨ab,ao,_,_,_,_,rfl,_⟩:=hA 0 x0 hx0;obtain⟨qs,hq1,hq20,hq3⟩:=hA0.cells;have hq2:Cs w ab ao (BE a.nodes qs):=fun j u hj=>cell_below (hq20 j u hj) hW;have hq4:=SE a.nodes qs hq1 hq3;refine V.enter _ Tryz.func57 (Mem.start (C:=A5) w) ?_;refine W ?_;refine R.new fun b2 h2=>?_;refine R.new fun b3 h3=>?_;refine R.new fun b4 h4=>?_;refine R.z ?_;refine V.regT [6,4,5,7] [0,1,2,3] (Mem A5 w [blk b2 [I J a.root,Z (F ⟨ab,ao,O⟩) a.nodes.length c] 26]) ?_;iterate 4 refine Wz ?_
 have hcl:=fun w' (h':B4 A5 w w')=>Ae4 ab ao c a.nodes qs w' hq1 (h'.cs hq2 fun e=>e) hq4 (by omega);refine Zz.last (ι:=(Option Addr×Nat)×Nat) (Si:=fun x=>Mem A5 w [An 40 6 (Z x.1.1 a.nodes.length x.1.2) a.nodes.length (BE a.nodes qs),blk x.2 [I J a.root,Z x.1.1 a.nodes.length x.1.2] 26,blk b4 [I J 0,Z O 0 0] 26,blk b3 [I J b.root,Z B b.nodes.length c2] 26,blk b2 [I J a.root,Z (F ⟨ab,ao,O⟩) a.nodes.length c] 26])
  (li:=fun x=>[(5,.pointer (F ⟨x.2,0,O⟩)),(2,.pointer (F ⟨b2,0,O⟩)),(3,.pointer (F ⟨b3,0,O⟩)),(4,.pointer (F ⟨b4,0,O⟩))]) (fun hV=>?_) (fun⟨q,b5⟩=>?_)
 ·refine Zz.nc 6 4 (T1:=[4,5,7]) (T2:=[5,6,7]) (fun w' h'=>hcl w' h'.1) (cs:=[I J 0,Z O 0 0]) (bt:=26) ?_ (fun b5 h5=>?_) (fun q=>?_)
  ·intro ρ w';simp[go_sem];try rfl
  ·refine Zz.cf (fun w' h'=>hcl w' h'.1) (fun q=>?_);refine Wz ?_;refine Zz.st ?_;refine Zz.off (fun w' h'=>h'.sel) ?_;exact R.z (V.less (hV (q,b5)) (fun w' h'=>h'.sel))
  ·refine Wz ?_;refine Zz.new fun b5 h5=>?_;refine Zz.st ?_;refine Zz.off (fun w' h'=>h'.sel) ?_;exact R.z (V.less (hV (q,b5)) (fun w' h'=>h'.sel))
 dsimp only
 repeat refine W ?_
 refine V.loop (ι:=Nat×List (Value×Value)×Option Addr×Nat) (fun p=>p.1<=b.nodes.length/\p.2.1.length=p.1/\∀ (j:Nat) x q,((b.nodes.take p.1).map (Mi a.nodes.length))[j]? =F x->p.2.1[j]? =F q->∃ (KA:Option Addr) (kc:Nat),q.1=Z KA x.keys.length kc/\GZ wB (fun b=>b<wB.heap.size) KA x.keys)
  (fun p=>Mem A5 w [An 40 6 (Z p.2.2.1 (a.nodes.length+p.1) p.2.2.2) (a.nodes.length+p.1) (BE (a.nodes++(b.nodes.take p.1).map (Mi a.nodes.length)) (qs++p.2.1)),blk b5 [I J a.root,Z p.2.2.1 (a.nodes.length+p.1) p.2.2.2] 26,star (JN 3 ((b.nodes.take p.1).map (Mi a.nodes.length)) p.2.1),blk b4 [I J 0,Z O 0 0] 26,blk b3 [I J b.root,Z B b.nodes.length c2] 26,blk b2 [I J a.root,Z (F ⟨ab,ao,O⟩) a.nodes.length c] 26])
  (fun p=>[(18,I J p.1),(17,I J b.nodes.length),(16,Z B b.nodes.length c2),(2,.pointer (F ⟨b2,0,O⟩)),(3,.pointer (F ⟨b3,0,O⟩)),(4,.pointer (F ⟨b4,0,O⟩)),(5,.pointer (F ⟨b5,0,O⟩))]) (fun p=>b.nodes.length - p.1) (0,[],q.1,q.2) ⟨Nat.zero_le _,rfl,fun j x q h=>by simp at h⟩ ?_ ⟨rfl,rfl,rfl,rfl,rfl,rfl,rfl,trivial⟩ ?_
 ·intro w' h';have h9:=Mem.toStar (B:=[]) (show Mem A5 w ([]++_) w' from h');simp only[List.take_zero,List.map_nil,List.append_nil,JN,Nat.add_zero]
  exact h9.sel
 rintro⟨i,us,LA,lc⟩ ⟨hi,hul,hus⟩;dsimp only at hi hul hus
 repeat refine W ?_
 refine V.ifp (fun hlt=>?_) (fun hge=>?_)
 ·have hlt2:i<b.nodes.length:=by omega
  obtain⟨x,hx⟩:∃ x,b.nodes[i]? =F x:=⟨_,List.getElem?_eq_getElem hlt2⟩
  obtain⟨bb,bo,KA,kc,IA,ic,rfl,_,hc,_,his⟩:=hB i x hx;obtain⟨bb',bo',KA',kc',IA',ic',e',_,hc',hks,_⟩:=hB0 i x hx;cases e'
  obtain⟨rfl,rfl⟩:KA=KA'/\kc=kc':=by
   have h1:=hc 4 _ rfl;have h2:=cell_below (hc' 4 _ rfl) hW;rw[h1] at h2;injection h2 with h2;injection h2 with h2 _ h3;exact⟨h2,h3⟩
  obtain⟨hkl,hkr⟩:=hk x (List.mem_of_getElem? hx);have htk:(b.nodes.take (i+1)).map (Mi a.nodes.length)=(b.nodes.take i).map (Mi a.nodes.length)++[Mi a.nodes.length x]:=by rw[List.take_add_one,hx,List.map_append];rfl
  have hml:((b.nodes.take i).map (Mi a.nodes.length)).length=i:=by rw[List.length_map,List.length_take];omega
  repeat refine W ?_
  refine R.ix hlt2 ?_;refine R.lo 0 hc ?_;refine R.new fun b7 h7=>?_
  repeat refine W ?_
  refine R.cf (fun w' h'=>NB (fun k=>k<w.heap.size) IA ic x.kids w' (his.to fun b o v hb hv=>⟨h'.1.cell hv (fun e=>e),hb⟩) (by omega)) (fun v=>?_);refine R.know (p:=(v=Z O 0 0/\x.kids.length=0)\/∃ g c,v=Z (F ⟨g,0,O⟩) x.kids.length c) (fun w' h'=>Co h' (List.Mem.head _)) fun hpv=>?_;obtain⟨PA,pc,rfl⟩:∃ PA pc,v=Z PA x.kids.length pc:=by
   rcases hpv with ⟨e,e0⟩ | ⟨g,c,e⟩
   ·exact⟨O,0,by rw[e,e0]⟩
   ·exact⟨_,c,e⟩
  repeat refine W ?_
  refine V.loop (·<=x.kids.length) (fun k=>Mem A5 w [An 3 1 (Z PA x.kids.length pc) x.kids.length (((x.kids.take k).map (·+(a.nodes.length:Int))++x.kids.drop k).map (I J)),blk b7 (Ps x (Z KA x.keys.length kc) (Z PA x.kids.length pc)) 40,An 40 6 (Z LA (a.nodes.length+i) lc) (a.nodes.length+i) (BE (a.nodes++(b.nodes.take i).map (Mi a.nodes.length)) (qs++us)),blk b5 [I J a.root,Z LA (a.nodes.length+i) lc] 26,star (JN 3 ((b.nodes.take i).map (Mi a.nodes.length)) us),blk b4 [I J 0,Z O 0 0] 26,blk b3 [I J b.root,Z (F ⟨bb,bo,O⟩) b.nodes.length c2] 26,blk b2 [I J a.root,Z (F ⟨ab,ao,O⟩) a.nodes.length c] 26])
   (fun k=>[(29,I J k),(28,I J x.kids.length),(7,.pointer (F ⟨b7,0,O⟩)),(18,I J i),(17,I J b.nodes.length),(16,Z (F ⟨bb,bo,O⟩) b.nodes.length c2),(2,.pointer (F ⟨b2,0,O⟩)),(3,.pointer (F ⟨b3,0,O⟩)),(4,.pointer (F ⟨b4,0,O⟩)),(5,.pointer (F ⟨b5,0,O⟩))]) (x.kids.length - ·) 0 (Nat.zero_le _) (fun w h=>h.sel) ⟨rfl,rfl,rfl,rfl,rfl,rfl,rfl,rfl,rfl,rfl,trivial⟩ ?_
  rintro k hkk
  repeat refine W ?_
  refine V.ifp (fun hlt=>?_) (fun hge=>?_)
  ·have hlt3:k<x.kids.length:=by omega
   obtain⟨n,hn⟩:∃ n,x.kids[k]? =F n:=⟨_,List.getElem?_eq_getElem hlt3⟩
   have hnr:=hkr n (List.mem_of_getElem? hn);obtain⟨pg,rfl⟩:∃ g,PA=F ⟨g,0,O⟩:=by
    rcases hpv with ⟨_,e0⟩ | ⟨g,c,e⟩
    ·omega
    ·cases e;exact⟨g,rfl⟩
   have hdr:x.kids.drop k=n::x.kids.drop (k+1):=by
    rw[List.drop_eq_getElem_cons hlt3];rw[List.getElem?_eq_getElem hlt3] at hn;cases hn;rfl
   have htk3:(x.kids.take (k+1)).map (·+(a.nodes.length:Int))=(x.kids.take k).map (·+(a.nodes.length:Int))++[n+a.nodes.length]:=by rw[List.take_add_one,hn,List.map_append];rfl
   have hcl:((x.kids.take k).map (·+(a.nodes.length:Int))).length=k:=by rw[List.length_map,List.length_take];omega
   have hat:=ZQ ((x.kids.take k).map (·+(a.nodes.length:Int))) (x.kids.drop (k+1)) n;have hst2:=QG ((x.kids.take k).map (·+(a.nodes.length:Int))) (x.kids.drop (k+1)) n (n+a.nodes.length);rw[hcl] at hat hst2;rw[hdr]
   repeat refine W ?_
   refine R.ix hlt3 ?_;refine R.lw (v:=I J n) ?_ ?_
   ·rw[Nat.zero_add,Nat.mul_one,hat];rfl
   repeat refine W ?_
   refine R.ix hlt3 ?_;refine R.sw (v:=I J (n+a.nodes.length)) (xs':=((x.kids.take k).map (·+(a.nodes.length:Int))++(n+a.nodes.length)::x.kids.drop (k+1)).map (I J)) ?_ ?_ (hp:=.inr (.inl ⟨rfl,by kernel_rfl⟩))
   ·rw[Nat.zero_add,Nat.mul_one];exact hst2
   repeat refine W ?_
   refine V.again (k+1) rfl hlt3 (hs:=fun w' h'=>?_);rw[htk3,List.append_assoc];exact h'.sel
  ·have hk3:k=x.kids.length:=by omega
   subst hk3;rw[List.take_length,List.drop_length,List.append_nil]
   repeat refine W ?_
   refine R.bs (m:=1) (fun b8 h8=>?_);refine R.app elN (k:=a.nodes.length+i) (m:=1) (news:=Ps (Mi a.nodes.length x) (Z KA x.keys.length kc) (Z PA x.kids.length pc)) (fun w' h'=>(Cs.of_blk (h'.blk (List.Mem.head _))).add) (by omega) (fun LA2 lc2=>?_)
   repeat refine W ?_
   obtain⟨k1,_⟩:=MN (it:=3) (a.nodes++(b.nodes.take i).map (Mi a.nodes.length)) (qs++us) (Mi a.nodes.length x) (Z KA x.keys.length kc,Z PA x.kids.length pc) (by rw[List.length_append,List.length_append,hml,hq1,hul]);have k2:=TM (it:=3) ((b.nodes.take i).map (Mi a.nodes.length)) us (Mi a.nodes.length x) (Z KA x.keys.length kc,Z PA x.kids.length pc) (by rw[hml,hul]);refine V.again (i+1,us++[(Z KA x.keys.length kc,Z PA x.kids.length pc)],LA2,lc2) rfl ⟨hlt2,by rw[List.length_append,hul];rfl,fun j y q hy hq=>?_⟩ (hs:=fun w' h'=>?_)
   ·dsimp only at hy hq;rw[htk] at hy;by_cases hj:j<i
    ·rw[List.getElem?_append_left (by omega)] at hy;rw[List.getElem?_append_left (by omega)] at hq;exact hus j y q hy hq
    ·rw[List.getElem?_append_right (by omega)] at hy;rw[List.getElem?_append_right (by omega)] at hq;have hj2:j - i=0:=by have:=(List.getElem?_eq_some_iff.1 hq).1;simp at this;omega
     rw[hml,hj2] at hy;rw[hul,hj2] at hq;cases hy;cases hq
     exact⟨KA,kc,rfl,hks⟩
   ·dsimp only
    rw[htk,<- List.append_assoc,<- List.append_assoc,k1,k2];refine Mem.sel (FK (A:=JN 3 ((b.nodes.take i).map (Mi a.nodes.length)) us) (B:=[An 3 1 (Z PA x.kids.length pc) (Mi a.nodes.length x).kids.length ((Mi a.nodes.length x).kids.map (I J))]) (Zz:=[An 40 6 (Z LA2 (a.nodes.length+i+1) lc2) (a.nodes.length+i+1) (BE (a.nodes++(b.nodes.take i).map (Mi a.nodes.length)) (qs++us)++Ps (Mi a.nodes.length x) (Z KA x.keys.length kc) (Z PA x.kids.length pc)),blk b5 [I J a.root,Z LA2 (a.nodes.length+i+1) lc2] 26,blk b4 [I J 0,Z O 0 0] 26,blk b3 [I J b.root,Z (F ⟨bb,bo,O⟩) b.nodes.length c2] 26,blk b2 [I J a.root,Z (F ⟨ab,ao,O⟩) a.nodes.length c] 26]) ?_);have hkl2:(Mi a.nodes.length x).kids.length=x.kids.length:=List.length_map ..;rw[hkl2];exact h'.sel
 ·have hi2:i=b.nodes.length:=by omega
  subst hi2;rw[List.take_length] at hus;rw[List.take_length]
  repeat refine W ?_
  refine V.end (fun w' h'=>?_) (hv:=.agg rfl (by(repeat (first | exact List.Mem.head _ | apply List.Mem.tail))) (by intro w;kernel_rfl) (by intro w;simp;try rfl) .nil);have hln:(a.nodes++b.nodes.map (Mi a.nodes.length)).length=a.nodes.length+b.nodes.length:=by rw[List.length_append,List.length_map]
  have h9:Mem A5 w [An 40 6 (Z LA (a.nodes.length+b.nodes.length) lc) (a.nodes.length+b.nodes.length) (BE (a.nodes++b.nodes.map (Mi a.nodes.length)) (qs++us)),star (JN 3 (b.nodes.map (Mi a.nodes.length)) us)] w':=h'.sel;rw[<- hln] at h9;obtain⟨g,c',e,hm⟩:=Yb (wB:=wB) (Z0:=[]) a.root hq1 (by rw[List.length_map,hul]) hq3 hus h9 (by rw[hln];omega);injection e with e1 e2 e3;subst e1;subst e3;refine⟨(g,lc),?_,hm.to_fr⟩;unfold Fx Ge;rw[hln];rfl
end
end Go.Proofs.YtdpppepmkeinaaaGreatDoor
