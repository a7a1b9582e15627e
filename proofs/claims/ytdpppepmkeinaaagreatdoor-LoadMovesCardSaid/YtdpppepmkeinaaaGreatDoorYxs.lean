/- What is proved: a part of the walk of the program and of its plain laws; no condition beside those that each theorem names. -/
import Derived.Test.YtdpppepmkeinaaaGreatDoorYxr
import Derived.Test.YtdpppepmkeinaaaGreatDoorYxp
import Derived.Test.YtdpppepmkeinaaaGreatDoorYxo
import Derived.Test.YtdpppepmkeinaaaGreatDoorYxq
import Derived.Test.YtdpppepmkeinaaaGreatDoorYxm
import Derived.Test.YtdpppepmkeinaaaGreatDoorYxl
import Derived.Test.YtdpppepmkeinaaaGreatDoorYm
import Derived.Test.YtdpppepmkeinaaaGreatDoorYt
import Derived.Test.YtdpppepmkeinaaaGreatDoorYx
import Derived.Test.YtdpppepmkeinaaaGreatDoorYa
import Derived.Test.YtdpppepmkeinaaaGreatDoorYg
import Derived.Test.YtdpppepmkeinaaaGreatDoorYxn
import Derived.Test.YtdpppepmkeinaaaGreatDoorProg
import Derived.ProofKit
import Derived.OpenShut
import Derived.Carry
import Derived.Deep.DeepHandedRow
import Derived.Deep.DeepWitnessRowRef
import Derived.Lib.LaidTab
import Derived.Lib.LaidU8T
import Derived.LaidLaws
import Derived.ChangeSame
import Derived.Test.YtdpppepmkeinaaaGreatDoorRows
import Derived.LaidHandle
import Derived.Stop.LaidErr
namespace Go.Proofs.YtdpppepmkeinaaaGreatDoor
open Go Go.RowKit Go.Lib
open Go.Value renaming int->I,string->Q,slice->Z
open Go.IntKind renaming i64->J
open Option renaming none->O,some->F
open _root_.Go renaming World->Y
set_option linter.unusedSimpArgs false
set_option linter.unusedVariables false
set_option linter.unusedSectionVars false
section
set_option maxHeartbeats 16000000
set_option maxRecDepth 100000
structure GrP (w:Y) (rt:Sc->Bool) (A:Option Addr) (g:Gf):Prop where
 nds:Fa w (fun k=>k<w.heap.size) A g.nodes
 chk:LY rt g=(0,0)
 sm:SmN g.nodes
 right:∀ x∈g.nodes,Bk 139 rt x.x w/\∀ y∈x.keys,Bk 139 rt y w
 root:0<=g.root/\g.root<g.nodes.length
 len:g.nodes.length<=200
 kids:∀ x∈g.nodes,x.kids.length<=40000/\∀ n∈x.kids,0<=n/\n<g.nodes.length
theorem R0 (tx:Sc->List UInt8) (ns:List Nd):∀ (f n m:Nat) (c:List Int),c.length=ns.length->(VL tx ns f n m c).length=ns.length
 | 0,n,m,c,h=>h
 | f+1,n,m,c,h=>by
  unfold VL;split
  ·exact R0 tx ns f _ _ _ (Kw ..)
  ·exact h
theorem Abp (tx:Sc->List UInt8) (ns:List Nd):(Tq tx ns).length=ns.length:=R0 tx ns _ _ _ _ (Kw ..)
theorem Ta {is:List Int} {k:Nat} {d:Int} (h:k<is.length):ldV false 1 ((is.map (Value.int .i64)).drop (0+k*1))=F (I J (is.getD k d)):=by
 rw[Nat.zero_add,Nat.mul_one,List.drop_eq_getElem_cons (by rw[List.length_map];exact h),List.getElem_map,List.getD,List.getElem?_eq_getElem h];rfl
theorem YX (tx:Sc->List UInt8) (rt:Sc->Bool) (g h:Gf) (A B:Option Addr) (c c2:Nat) (w:Y) (hg:GrP w rt A g) (hh:GrP w rt B h) (hD:∀ S,ES w S) (hE:Ea.ErrC w) (hP:Aa3 w tx (Ge g.nodes h.nodes) (Ge g.nodes h.nodes).length):
  Calls Tryz.prog 39 #[Fx A c g,Fx B c2 h] w fun e w'=>e=.returned (.tuple #[.bool (Ae6 tx g h),I J 0])/\Below w.heap.size w w':=by
 have hC:=fun(x:Gf) (X:Option Addr) cx (hx:GrP w rt X x) w' (hb:Below w.heap.size w w')=>SO (fun k=>k<w.heap.size) rt x X cx w' (hx.nds.to fun b o v hb' hv=>⟨cell_below hv hb,hb'⟩) hx.sm (fun y hy=>⟨(hx.right y hy).1.to hb,fun z hz=>((hx.right y hy).2 z hz).to hb⟩) (fun w1 A1 c1 ks hb1 hk=>hD _ w1 A1 c1 ks (hb.trans (hb1.mono hb.size)) hk) (cell_below hE hb);have hCg:=hC g A c hg;have hCh:=hC h B c2 hh;rw[hg.chk] at hCg;rw[hh.chk] at hCh;have hg1:=hg.len;have hh1:=hh.len;have hg2:=hg.root;have hh2:=hh.root;have hln:(Ge g.nodes h.nodes).length=g.nodes.length+h.nodes.length:=by unfold Ge;rw[List.length_append,List.length_map]
 refine V.enter _ Tryz.func39 (Mem.start (C:=A5) w) ?_;refine W ?_;refine R.new fun b2 h2=>?_;refine R.new fun b3 h3=>?_
 repeat refine W ?_
 refine R.bs (m:=2) (cs:=[I J g.root,Z A g.nodes.length c,I J h.root,Z B h.nodes.length c2]) (bt:=26) (fun bl hl=>?_)
 repeat refine W ?_
 refine V.loop (ι:=Nat) (fun k=>k<=2) (fun _=>Mem A5 w [blk bl [I J g.root,Z A g.nodes.length c,I J h.root,Z B h.nodes.length c2] 26,blk b3 [I J h.root,Z B h.nodes.length c2] 26,blk b2 [I J g.root,Z A g.nodes.length c] 26]) (fun(k:Nat)=>[(15,I J k),(14,I J 2),(13,Z (F ⟨bl,0,O⟩) 2 2),(2,.pointer (F ⟨b2,0,O⟩)),(3,.pointer (F ⟨b3,0,O⟩)),(4,.bool false),(5,I J 0)]) (fun k=>2 - k) 0 (by omega) (fun w h=>h.sel) ⟨rfl,rfl,rfl,rfl,rfl,rfl,rfl,trivial⟩ ?_;intro k hk
 match k,hk with
 | 0,_=>
  repeat refine W ?_
  refine R.new fun b7 h7=>?_
  repeat refine W ?_
  refine R.c (fun w' h'=>hCg w' h'.1.below) ?_
  repeat refine W ?_
  exact V.again 1
 | 1,_=>
  repeat refine W ?_
  refine R.new fun b7 h7=>?_
  repeat refine W ?_
  refine R.c (fun w' h'=>hCh w' h'.1.below) ?_
  repeat refine W ?_
  exact V.again 2
 | 2,_=>
  repeat refine W ?_
  refine R.cf (fun w' h'=>Wt g h A B c c2 w w' h'.1.below hg.nds hh.nds (by omega) ⟨by omega,by omega⟩ (fun x hx=>⟨(hh.kids x hx).1,fun n hn=>by have:=(hh.kids x hx).2 n hn;omega⟩)) (fun q=>?_);refine R.cf (fun w' h'=>Aey g.root (F ⟨q.1,0,O⟩) (Ge g.nodes h.nodes).length q.2 w' (by omega)) (fun p=>?_);obtain⟨gj,hgj⟩:∃ x:Gf,x=⟨g.root,Ge g.nodes h.nodes⟩:=⟨_,rfl⟩
  have hz:(QC gj.nodes.length).length=gj.nodes.length:=by unfold QC;simp
  have hE2:Vv w p.1 (F ⟨q.1,0,O⟩) (F ⟨p.2,0,O⟩) q.2 gj.nodes.length gj (QC gj.nodes.length)=[blk p.1 [I J gj.root,Z (F ⟨q.1,0,O⟩) gj.nodes.length q.2,Z (F ⟨p.2,0,O⟩) gj.nodes.length gj.nodes.length] 182,An 3 1 (Z (F ⟨p.2,0,O⟩) gj.nodes.length gj.nodes.length) gj.nodes.length ((QC gj.nodes.length).map (I J)),grW w (Fx (F ⟨q.1,0,O⟩) q.2 gj) gj]:=by unfold Vv;rw[hz]
  have hln2:gj.nodes.length=g.nodes.length+h.nodes.length:=by rw[hgj];exact hln
  refine R.iff (S':=Mem A5 w (MC w p.1 (F ⟨q.1,0,O⟩) (F ⟨p.2,0,O⟩) q.2 gj.nodes.length gj (QC gj.nodes.length)::[blk bl [I J g.root,Z A g.nodes.length c,I J h.root,Z B h.nodes.length c2] 26,blk b3 [I J h.root,Z B h.nodes.length c2] 26,blk b2 [I J g.root,Z A g.nodes.length c] 26])) (fun w'=>?_) ?_
  ·unfold MC;rw[hE2,hgj];exact⟨fun h'=>Mem.toStar (B:=[_,_,_]) h',fun h'=>h'.star⟩
  refine R.cq (fun w' h'=>VP w tx p.1 (F ⟨q.1,0,O⟩) (F ⟨p.2,0,O⟩) q.2 gj.nodes.length gj w' (by rw[hgj];exact hP) (by omega) h'.1.below) (fun Fz hF b hb=>(hF b hb).elim id (fun e=>e.elim)) (fun _=>?_);iterate 2 refine W ?_
  refine V.star ?_;have hrl:=Abp tx gj.nodes;have hr1:=hg.root;have hr2:=hh.root;show V _ _ _ _ _ _ (Mem A5 w [blk p.1 _ _,An _ _ _ _ _,grW _ _ _,blk bl _ _,blk b3 _ _,blk b2 _ _]) _;iterate 4 refine W ?_
  refine R.re 35 (v:=I J g.root) (v':=I J (g.root.toNat:Int)) (by congr 1;omega) ?_;refine R.ix (show g.root.toNat<gj.nodes.length by omega) ?_;refine R.lw (v:=I J ((Tq tx gj.nodes).getD g.root.toNat 0)) (Ta (by omega)) ?_;iterate 7 refine W ?_
  refine R.re 44 (v:=I J (h.root+(g.nodes.length:Int))) (v':=I J ((h.root.toNat+g.nodes.length:Nat):Int)) (by congr 1;omega) ?_;refine R.ix (show h.root.toNat+g.nodes.length<gj.nodes.length by omega) ?_;refine R.lw (v:=I J ((Tq tx gj.nodes).getD (h.root.toNat+g.nodes.length) 0)) (Ta (by omega)) ?_
  repeat refine W ?_
  refine V.end fun w' h'=>?_;exact⟨by rw[hgj];rfl,h'.1.below⟩
end
section
set_option maxHeartbeats 8000000
set_option maxRecDepth 100000
theorem YR (s:List UInt8) (h00:(A3 100000 s).2.2=0->(A3 100000 s).2.1=0):(EK 2 (Ao s) (EJ s) (IX s)).1=(A3 100000 s).1/\(EK 2 (Ao s) (EJ s) (IX s)).2.2=(A3 100000 s).2/\(EK 2 (Ao s) (EJ s) (IX s)).2.1=G8/\((EK 2 (Ao s) (EJ s) (IX s)).2.2.2=0->(EK 2 (Ao s) (EJ s) (IX s)).2.2.1=0):=by
 unfold EK;by_cases h1:(Ao s).2.2=0
 ·have ht:A3 100000 s=EJ s:=by unfold A3;exact if_neg (fun h=>h h1)
  rw[ht] at h00 |-;by_cases h2:(EJ s).2.2=0
  ·have h3:(EJ s).2.1=0:=h00 h2;simp[h1,h2];exact Prod.ext h3.symm h2.symm
  ·have h3:(EJ s).1=Ei:=MX h2;simp[h1,h2,h3]
 ·have ht:A3 100000 s=(Ei,(Ao s).2.1,(Ao s).2.2):=by unfold A3;exact if_pos h1
  simp[h1,ht]
theorem Wu (s:ByteArray) (w:Y) (hW:FP w) (h00:(A3 100000 s.data.toList).2.2=0->(A3 100000 s.data.toList).2.1=0):
  Calls Tryz.prog 22 #[Q s] w fun e w'=>∃ y:TY,e=.returned (.tuple #[.agg (AM y).toArray,I J (A3 100000 s.data.toList).2.1,I J (A3 100000 s.data.toList).2.2])/\Fr w w' [A9 (AM y) (A3 100000 s.data.toList).1]:=by
 have hA:=fun fb w' (h:FP w') hf=>Xh s _ _ _ fb 2 [] w' (Ahq h s) (.inl ⟨rfl,rfl⟩) hf;obtain⟨h1,h2,h3,h0⟩:=YR s.data.toList h00;rw[h2] at h0;rw[h1,h3,h2] at hA;obtain⟨L,hL⟩:∃ x,A3 100000 s.data.toList=x:=⟨_,rfl⟩
 rw[hL] at hA h0 |-;clear h1 h2 h3 h00 hL;refine V.enter _ Tryz.func22 (Mem.start (C:=A5) w) ?_;refine W ?_;refine R.new fun b2 h2=>?_
 repeat refine W ?_
 refine R.new fun b5 h5=>?_
 repeat refine W ?_
 refine R.bs (m:=2) (fun fb hfb=>?_);refine R.cf (ι:=TY×Option Addr×Nat) (v:=fun x=>.tuple #[.agg (AM x.1).toArray,Fx x.2.1 x.2.2 G8,Eb L.2.1 L.2.2]) (X:=fun x=>[A9 (AM x.1) L.1]) (fun w' h'=>(hA fb w' (hW.to h'.1.below) (Cs.of_blk (h'.blk (List.Mem.head _)))).mono fun e w1 ⟨x,he,_,hf,_⟩=>⟨x,he,hf rfl⟩) (fun x=>?_)
 repeat (first | refine W ?_ | refine R.new fun _ _=>?_)
 refine R.c (fun w' h'=>Ahh L.2.1 L.2.2 w' (hW.to h'.1.below).errC h0) ?_
 repeat refine W ?_
 refine V.end (fun w' h'=>?_) (hv:=.agg rfl (by(repeat (first | exact List.Mem.head _ | apply List.Mem.tail))) (by intro w;kernel_rfl) (by intro w;simp;try rfl) (.tmp rfl (.tmp rfl .nil)));exact⟨x.1,rfl,(h'.sel:Mem A5 w [A9 _ _] w').to_fr⟩
structure GrQ (g:Gf):Prop where
 chk:LY A4 g=(0,0)
 sm:SmN g.nodes
 str:∀ x∈g.nodes,x.x.str.size<=100000/\∀ y∈x.keys,y.str.size<=100000
 root:0<=g.root/\g.root<g.nodes.length
 len:g.nodes.length<=200
 kids:∀ x∈g.nodes,x.kids.length<=40000/\∀ n∈x.kids,0<=n/\n<g.nodes.length
theorem GrQ.to {w:Y} {Fz:Nat->Prop} {A:Option Addr} {g:Gf} (h:GrQ g) (hW:FP w) (hn:Fa w Fz A g.nodes) (hF:∀ b,Fz b->b<w.heap.size):GrP w A4 A g where
 nds:=hn.to fun b o v hb hv=>⟨hv,hF b hb⟩
 chk:=h.chk
 sm:=h.sm
 right x hx:=⟨hW.right (by have:=(h.str x hx).1;omega),fun y hy=>hW.right (by have:=(h.str x hx).2 y hy;omega)⟩
 root:=h.root
 len:=h.len
 kids:=h.kids
structure Aet (ns:List Nd):Prop where
 len:ns.length<=1000
 small:∀ x∈ns,x.keys.length<=1000000/\x.kids.length<=40000
 once:∀ x∈ns,x.keys.Nodup
 sort:∀ x∈ns,NM x.keys.length
 str:∀ x∈ns,∀ y∈x.keys,y.str.size<=100000
 fit:∀ x∈ns,(Q0 txP (Et x)).length<=900000
 kids:∀ x∈ns,∀ n∈x.kids,0<=n/\n<ns.length
theorem Yv {x:Nd} {y:Sc} (h:y∈Et x):y∈x.keys:=by
 unfold Et Gb at h;split at h
 ·obtain⟨p,hp,rfl⟩:=List.mem_map.1 h;exact(List.of_mem_zip ((Ef _).mem_iff.1 hp)).1
 ·cases h
theorem Aet.to {w:Y} {ns:List Nd} (h:Aet ns) (hW:FP w):Aa3 w txP ns ns.length where
 len:=h.len
 small:=h.small
 once:=h.once
 sort:=h.sort
 text x hx y hy w' hb:=(VV y w' (h.str x hx y (Yv hy)) (hW.tabs.below hb)).mono fun e w1 ⟨he,hb1⟩=>⟨(Fw y).2,by rw[he];unfold Aak txP;simp,hb1⟩
 fit:=h.fit
 kids:=h.kids
 itoa n w' hb h1 h2:=SH n w' (by omega) (by omega) (hW.tabs.below hb)
theorem Alm:RY:=fun x y w=>(T3 x y w).mono fun e w' ⟨he,hg⟩=>⟨he,hg.below⟩
theorem DP {A B:Option Addr} {c d:Nat} {g:Gf} (h:Fx A c g=Fx B d g):A=B/\c=d:=by
 unfold Fx at h;injection h with h;injection h with h;injection h with _ h;injection h with h _;injection h with h1 _ h2;exact⟨h1,h2⟩
def NC (s t:List UInt8):Bool×Int:=if (Aq AD 100000 s).2.2≠0 then (false,(Aq AD 100000 s).2.2) else if (Aq AD 100000 t).2.2≠0 then (false,(Aq AD 100000 t).2.2) else (Ae6 txP (Aq AD 100000 s).1 (Aq AD 100000 t).1,0)
theorem Zp (s t:ByteArray) (w:Y) (hW:FP w) (hs:(Aq AD 100000 s.data.toList).2.2=0->GrQ (Aq AD 100000 s.data.toList).1) (ht:(Aq AD 100000 t.data.toList).2.2=0->GrQ (Aq AD 100000 t.data.toList).1)
  (hb:(Aq AD 100000 s.data.toList).2.2=0->(Aq AD 100000 t.data.toList).2.2=0->Aet (Ge (Aq AD 100000 s.data.toList).1.nodes (Aq AD 100000 t.data.toList).1.nodes)):
  Calls Tryz.prog 16 #[Q s,Q t] w fun e w'=>e=.returned (.tuple #[.bool (NC s.data.toList t.data.toList).1,I J (NC s.data.toList t.data.toList).2])/\Below w.heap.size w w':=by
 have hS:=fun w' (h:FP w')=>C2 s w' h;have hT:=fun w' (h:FP w')=>C2 t w' h;unfold NC;obtain⟨L,hL⟩:∃ x,Aq AD 100000 s.data.toList=x:=⟨_,rfl⟩
 obtain⟨M,hM⟩:∃ x,Aq AD 100000 t.data.toList=x:=⟨_,rfl⟩
 rw[hL] at hS hs hb |-;rw[hM] at hT ht hb |-;clear hL hM;refine V.enter _ Tryz.func16 (Mem.start (C:=A5) w) ?_
 repeat refine W ?_
 refine R.cf (fun w' h'=>hS w' (hW.to h'.1.below)) (fun q=>?_)
 repeat (first | refine W ?_ | refine R.new fun _ _=>?_)
 by_cases e1:L.2.2=0
 ·refine V.re 18 (v:=.bool (L.2.2 !=0)) (v':=.bool false) (by simp[e1]) ?_
  repeat refine W ?_
  refine R.cf (fun w' h'=>hT w' (hW.to h'.1.below)) (fun q2=>?_)
  repeat (first | refine W ?_ | refine R.new fun _ _=>?_)
  by_cases e2:M.2.2=0
  ·refine V.re 27 (v:=.bool (M.2.2 !=0)) (v':=.bool false) (by simp[e2]) ?_
   repeat refine W ?_
   refine R.c (fun w' h'=>?_) ?_ (v:=.tuple #[.bool (Ae6 txP L.1 M.1),I J 0])
   ·obtain⟨Fz,⟨A,c,ea,hn⟩,hF⟩:=h'.has (X:=KZ (Fx q.1 q.2 L.1) L.1) (by simp);obtain⟨F2,⟨A2,c2,ea2,hn2⟩,hF2⟩:=h'.has (X:=KZ (Fx q2.1 q2.2 M.1) M.1) (by simp);have hW':=hW.to h'.1.below;obtain⟨rfl,rfl⟩:=DP ea;obtain⟨rfl,rfl⟩:=DP ea2;exact YX txP A4 L.1 M.1 q.1 q2.1 q.2 q2.2 w' ((hs e1).to hW' hn fun b hb=>(hF b hb).1) ((ht e2).to hW' hn2 fun b hb=>(hF2 b hb).1) (fun S=>Rh _ _) hW'.errC ((hb e1 e2).to hW')
   repeat refine W ?_
   refine V.end fun w' h'=>?_;rw[if_neg (fun h=>h e1),if_neg (fun h=>h e2)];exact⟨rfl,h'.1.below⟩
  ·refine V.re 27 (v:=.bool (M.2.2 !=0)) (v':=.bool true) (by simp[e2]) ?_
   repeat refine W ?_
   refine V.end fun w' h'=>?_;rw[if_neg (fun h=>h e1),if_pos e2];exact⟨rfl,h'.1.below⟩
 ·refine V.re 18 (v:=.bool (L.2.2 !=0)) (v':=.bool true) (by simp[e1]) ?_
  repeat refine W ?_
  refine V.end fun w' h'=>?_;rw[if_pos e1];exact⟨rfl,h'.1.below⟩
end
section
set_option maxHeartbeats 16000000
set_option maxRecDepth 100000
section
variable {w:Y} {S:Nat->Prop} {b:Nat} {ty:TypeId}
theorem ksNil {A:Option Addr}:GZ w S A []:=fun j x hj=>by cases hj
theorem isNil {A:Option Addr}:Ja w S A []:=fun j x hj=>by cases hj
theorem Aco {is:List Int} (h:w.heap[b]? =F (.cells (is.map (Value.int .i64)).toArray ty)) (hS:S b):Ja w S (F ⟨b,0,O⟩) is:=fun j i hj=>by
 refine⟨b,0,rfl,hS,fun k u hk=>?_⟩
 match k,hk with
 | 0,hk=>
  cases hk
  have:=Cs.of_blk h j (I J i) (by rw[List.getElem?_map,hj];rfl)
  rwa [Nat.mul_one,Nat.add_zero]
theorem QM {ns:List Nd} {vs:List (Value×Value)} (h:w.heap[b]? =F (.cells (BE ns vs).toArray ty)) (hl:vs.length=ns.length) (hS:S b) (hp:∀ (j:Nat) x p,ns[j]? =F x->vs[j]? =F p->NdP w S x p):Fa w S (F ⟨b,0,O⟩) ns:=fun j x hj=>by
 obtain⟨p,hpj⟩:∃ p,vs[j]? =F p:=⟨_,List.getElem?_eq_getElem (by rw[hl];exact(List.getElem?_eq_some_iff.1 hj).1)⟩
 obtain⟨KA,kc,IA,ic,rfl,hk,hi⟩:=hp j x p hj hpj;have hc:=(Cs.of_blk h).drop (j*6);rw[JU ns vs j x _ hl hj hpj] at hc;exact⟨b,0,KA,kc,IA,ic,rfl,hS,fun i v hv=>hc i v (by rw[List.getElem?_append_left (List.getElem?_eq_some_iff.1 hv).1];exact hv),hk,hi⟩
end
theorem Ama:GrQ g4 where
 chk:=Alh.1
 sm:=by unfold SmN;decide
 str:=by decide
 root:=by decide
 len:=by decide
 kids:=by decide
theorem Amd:GrQ g5 where
 chk:=Alh.2
 sm:=by unfold SmN;decide
 str:=by decide
 root:=by decide
 len:=by decide
 kids:=by decide
theorem Ajs:Aet (Ge g4.nodes g5.nodes) where
 len:=by decide
 small:=by decide
 once:=by decide
 sort x hx:=Ade Alm _ (show x.keys.length<20 from(show ∀ x∈Ge g4.nodes g5.nodes,x.keys.length<20 by decide) x hx)
 str:=by decide
 fit:=by decide+kernel
 kids:=by decide
theorem DY (w:Y) (hW:FP w):Calls Tryz.prog 11 #[] w fun e w'=>e=.returned (.bool true)/\Below w.heap.size w w':=by
 have a1:=fun w' (h:FP w')=>C2 Akf w' h;have a2:=fun w' (h:FP w')=>Wu Zl w' h (fun _=>by rw[X0.2.1]);have a3:=fun w' (h:FP w')=>C2 Zl w' h;have a4:=fun w' (h:FP w')=>C2 Ak1 w' h;have a5:=fun w' (h:FP w')=>Zp Ai7 Ahu w' h (by rw[Aaa];exact fun _=>Ama) (by rw[Ack];exact fun _=>Amd) (by rw[Aaa,Ack];exact fun _ _=>Ajs);have hal:NC Ai7.data.toList Ahu.data.toList=(true,0):=by unfold NC;rw[Aaa,Ack];exact(if_neg (by decide)).trans ((if_neg (by decide)).trans (by rw[Ad3]))
 rw[Ak4] at a1;rw[X0.2.1] at a2;rw[X0.2.2] at a3;rw[Akn] at a4;rw[hal] at a5;obtain⟨T,hT⟩:∃ x,(A3 100000 Zl.data.toList).1=x:=⟨_,rfl⟩
 have hk:T.kind=2:=by rw[<- hT];exact X0.1
 rw[hT] at a2;clear hT hal;refine V.enter _ Tryz.func11 (Mem.start (C:=A5) w) ?_
 repeat refine W ?_
 refine R.cf (fun w' h'=>a1 w' (hW.to h'.1.below)) (fun q1=>?_)
 repeat (first | refine W ?_ | refine R.new fun _ _=>?_)
 refine R.cf (fun w' h'=>a2 w' (hW.to h'.1.below)) (fun y=>?_);refine R.know (p:=y.1=2) (fun w' h'=>?_) fun hy=>?_
 ·obtain⟨Fz,hF,_⟩:=h'.has (X:=A9 (AM y) T) (by simp);obtain⟨y',e,h1,_⟩:=D7.y (show D7 w' Fz T (AM y) from hF);injection e with e _;injection e with _ e;rw[e,h1];cases T;exact hk
 repeat (first | refine W ?_ | refine R.new fun _ _=>?_)
 refine R.cf (fun w' h'=>a3 w' (hW.to h'.1.below)) (fun q3=>?_)
 repeat (first | refine W ?_ | refine R.new fun _ _=>?_)
 refine R.cf (fun w' h'=>a4 w' (hW.to h'.1.below)) (fun q4=>?_)
 repeat (first | refine W ?_ | refine R.new fun _ _=>?_)
 refine R.c (fun w' h'=>a5 w' (hW.to h'.1.below)) ?_
 repeat (first | refine W ?_ | refine R.new fun _ _=>?_)
 refine R.bs (m:=2) (cs:=[I J 0,I J 1]) (bt:=3) (fun bi hbi=>?_)
 repeat refine W ?_
 refine R.bs (m:=2) (cs:=BE g1.nodes [(Z O 0 0,Z (F ⟨bi,0,O⟩) 2 2),(Z O 0 0,Z O 0 0)]) (bt:=40) (fun bn hbn=>?_)
 repeat refine W ?_
 refine R.c (v:=.bool true) (fun w' h'=>?_) ?_
 ·obtain⟨Fz,⟨A,c,ea,hn⟩,hF⟩:=h'.has (X:=KZ (Fx q1.1 q1.2 g1) g1) (by simp);obtain⟨rfl,rfl⟩:=DP ea;have hbl:=h'.blk (b:=bi) (cs:=[I J 0,I J 1]) (ty:=3) (by simp);refine(DQ Fz (fun _=>True) q1.1 (F ⟨bn,0,O⟩) q1.2 2 g1 g1 w' hn (QM (h'.blk (List.Mem.head _)) rfl trivial (fun j x p hx hp=>?_)) (by unfold SmN;decide)).mono fun e w2 ⟨he,hb⟩=>⟨by rw[he,decide_eq_true rfl],hb⟩
  match j,hx,hp with
  | 0,hx,hp=>cases hx;cases hp;exact⟨O,0,F ⟨bi,0,O⟩,2,rfl,ksNil,Aco (is:=[0,1]) hbl trivial⟩
  | 1,hx,hp=>cases hx;cases hp;exact⟨O,0,O,0,rfl,ksNil,isNil⟩
 repeat refine W ?_
 refine R.re 68 (v:=.bool (y.1==2)) (v':=.bool true) (by simp[hy]) ?_
 repeat refine W ?_
 refine V.end fun w' h'=>?_;exact⟨rfl,h'.1.below⟩
end
section
set_option maxRecDepth 100000
section
variable {P:Program} {n:Nat} {ds:List Deferred} {d:Bool} {ops:Array Oper} {K:Act->Y->Prop} {i:Nat} {pl pend:List Nat} {S:Y->Prop} {l:Env}
 {t:Nat} {ty:TypeId} {ps:String} {af:Array Edge} {gd:Option (Nat×Bool)}
theorem Aek (tt:TypeId) (a b:ByteArray) (w:Y) (hl:a.size+b.size<=1000000):(binOp .add tt (Q a) (Q b)).run P w=.ok (Q (a++b)) w:=by
 have h1:(a++b).size<=1000000:=by rw[ByteArray.size_append];exact hl
 show(Op.stringOp .add a b).run P w=_;simp[Op.stringOp];omega
theorem R.cat {x y:Operand} {tt t2:TypeId} (a b:ByteArray) (hl:a.size+b.size<=1000000) (h:Rj P n ds d ops K pl pend S ((t,Q (a++b))::l)) (ho:AQ ops.toList i=F ⟨F t,.binOp .add tt x y t2,ty,ps,af,gd⟩:=by rfl) (hx:ev l x=F (Q a):=by rfl) (hy:ev l y=F (Q b):=by rfl) (hg:D0 ops.toList l gd=F true:=by rfl):Rj P n ds d ops K (i::pl) pend S l:=
 R.bi (fun w=>Aek tt a b w hl) h ho hx hy (fun w=>rfl) hg
theorem R.cut {x y:Operand} {tt:TypeId} {s:ByteArray} (k:Nat) {m:Int} (hk:k<=s.size) (hm:m=(k:Int)) (h:Rj P n ds d ops K pl pend S ((t,Q (s.extract 0 k))::l)) (ho:AQ ops.toList i=F ⟨F t,.slice tt x O (F y) O,ty,ps,af,gd⟩:=by rfl) (hx:ev l x=F (Q s):=by rfl) (hy:ev l y=F (I J m):=by rfl) (hu:P.underlying tt=F .string:=by kernel_rfl) (hg:D0 ops.toList l gd=F true:=by rfl):Rj P n ds d ops K (i::pl) pend S l:=
 R.takeP ho hg rfl (by
  rw[if_pos rfl];intro a w ha;subst hm;have:=run_slice_string_to_if (P:=P) w tt s .i64 (k:Int) hu;have h1:=ha.ev hx;have h2:=ha.ev hy;generalize a.eval=ρ at h1 h2 |-;simp[go_sem,h1,h2,this,hk,run_sliceAt_string w tt _ _ _ _ hu]) h
end
end
section
set_option maxRecDepth 100000
end
section
set_option maxRecDepth 100000
end
section

end
section

end
section
set_option maxRecDepth 100000
end
section
set_option maxRecDepth 100000
end
section
set_option maxRecDepth 100000
end
section

end
section
set_option maxRecDepth 100000
end
section
set_option maxRecDepth 100000
end
section
set_option maxRecDepth 100000
open Go.ChangeShapes Go.WideShapes Go.RowKit Go.Lib Go.Shelf
def ren:Ren:=⟨fun x=>x,fun x=>if x=5 then 5 else if x=119 then 246 else if x=138 then 248 else if x=139 then 249 else x,
 fun x=>if x=3 then 2 else if x=4 then 3 else x⟩
theorem Afs:U8Types Tryz.prog ren:=⟨by kernel_rfl,by kernel_rfl,by kernel_rfl,by kernel_rfl⟩
theorem Af3:U8Extra Tryz.prog ren:=⟨by kernel_rfl,by kernel_rfl,by kernel_rfl,by kernel_rfl,by kernel_rfl,by kernel_rfl,by kernel_rfl⟩
theorem NX {W:Y} (h:VarReads Tryz.prog W "internal/strconv.uint64pow10" (tabData .u64 pow10Tab)):TabIs Tryz.prog W "internal/strconv.uint64pow10" .u64 pow10Tab:=by
 obtain⟨g,t,cs,fuel,p,hg,hty,hvar,hd⟩:=h;obtain rfl:=Option.some.inj ((show Tryz.prog.globalNamed "internal/strconv.uint64pow10"=F 7 by kernel_rfl).symm.trans hg);obtain rfl:=Option.some.inj ((show(Tryz.prog.globals[7]?).map (·.type)=F 386 by kernel_rfl).symm.trans hty);unfold TabIs;rw[hvar,<- cells_of_tab (show Tryz.prog.underlying 386=F (.array 20 350) by kernel_rfl) (show Tryz.prog.underlying 350=F (.int .u64) by kernel_rfl) (by kernel_rfl) (by kernel_rfl) hd]
theorem Ko {W:Y} {n nm:String} {d:DataW Unit} {g:Nat} (h:VarReads Tryz.prog W n (.iface nm d)) (hg:Tryz.prog.globalNamed n=F g) (ht:(Tryz.prog.globals[g]?).map (·.type)=F 61):
  ∃ te pe,W.cell? ⟨g,0,O⟩=F (.iface te pe):=by
 obtain⟨g',t,cs,fuel,p,hg',hty,hvar,hd⟩:=h;obtain rfl:=Option.some.inj (hg.symm.trans hg');obtain rfl:=Option.some.inj (ht.symm.trans hty);obtain⟨_,u,v,hcs,_⟩:=iface_of_trod Tryz.underlying61 hd;have:=World.var?_cell hg hvar 0;refine⟨u,v,?_⟩;rw[this,<- Array.getElem?_toList,hcs];rfl
theorem O2 {W:Y} {d1 d2:DataW Unit} {n1 n2:String} (h1:VarReads Tryz.prog W "unicode/utf8.first" firstData) (h2:VarReads Tryz.prog W "unicode/utf8.acceptRanges" acceptData)
  (h3:VarReads Tryz.prog W "internal/strconv.uint64pow10" (tabData .u64 pow10Tab)) (h4:VarReads Tryz.prog W "strconv.ErrSyntax" (.iface n1 d1)) (h5:VarReads Tryz.prog W "strconv.ErrRange" (.iface n2 d2)):BU W:=by
 have ht:=NX h3;have hc:=ht.cell (show Tryz.prog.globalNamed "internal/strconv.uint64pow10"=F 7 by kernel_rfl) 0 (by decide);exact⟨K9 hc,utf8Tabs_of_readsT Afs Af3 h1 h2,ht,Ko h4 (by kernel_rfl) (by kernel_rfl),Ko h5 (by kernel_rfl) (by kernel_rfl)⟩
theorem own:ownKnob Tryz.prog.godebug=O:=by kernel_rfl
noncomputable def XG (os:Os):Y:=
 let w0:=World.holding Tryz.prog os ⟨#[],#[],[]⟩
 let put (h:Array Obj) (g:Nat) (cs:Array Value):Array Obj:=h.modify g fun
  | .cells _ t frozen=>.cells cs t frozen
  | o=>o
 let h0:=put w0.heap 2 (Lib.firstTab.map fun z=>Value.int .u8 z).toArray
 let h1:=put h0 3 ((List.range 16).flatMap fun i=>[Value.int .u8 (Lib.accLo i),Value.int .u8 (Lib.accHi i)]).toArray
 let h2:=put h1 5 #[.iface 382 (.pointer (F ⟨w0.heap.size,0,O⟩))]
 let h3:=put h2 6 #[.iface 382 (.pointer (F ⟨w0.heap.size+1,0,O⟩))]
 let h4:=put h3 7 (Lib.pow10Tab.map fun z=>Value.int .u64 z).toArray
 let h5:=put h4 8 ([0,1,28,2,29,14,24,3,30,22,20,15,25,17,4,8,31,27,13,23,21,19,16,7,26,12,18,6,11,5,10,9].map fun z=>Value.int .u8 z).toArray
 let h6:=put h5 9 ([0,1,56,2,57,49,28,3,61,58,42,50,38,29,17,4,62,47,59,36,45,43,51,22,53,39,33,30,24,18,12,5,63,55,48,27,60,41,37,16,46,35,44,21,52,32,23,11,54,26,40,15,34,20,31,10,25,14,19,9,13,8,7,6].map fun z=>Value.int .u8 z).toArray
 let h6:=put h6 0 #[.iface 233 (.agg #[.pointer (F ⟨10,61,O⟩)])]
 let h6:=put h6 1 #[.iface 382 (.pointer (F ⟨w0.heap.size+2,0,O⟩))]
 let h7:=h6.push (.cells #[Q ⟨#[105,110,118,97,108,105,100,32,115,121,110,116,97,120]⟩] 384 (0,0))
 let h8:=h7.push (.cells #[Q ⟨#[118,97,108,117,101,32,111,117,116,32,111,102,32,114,97,110,103,101]⟩] 384 (0,0))
 let h9:=h8.push (.cells #[Q ⟨#[110,111,32,103,114,97,112,104]⟩] 384 (0,0))
 {w0 with heap:=h9}
theorem Zm {W:Y} (h:laidMetH Tryz.prog Rows.loadNotesRow.laid W):BU W:=by
 have h':laidMet Tryz.prog (Rows.loadNotesRow.laid.filter fun x=>x.2.handleName?.isNone) W/\handlesMet Tryz.prog _ W:=h;exact O2 (n1:= "*errors.errorString") (n2:= "*errors.errorString") (d1:=.ptr (.agg [.lit (.string [105,110,118,97,108,105,100,32,115,121,110,116,97,120])])) (d2:=.ptr (.agg [.lit (.string [118,97,108,117,101,32,111,117,116,32,111,102,32,114,97,110,103,101])])) (laidMet.reads h'.1 (List.mem_of_getElem? (i:=7) (by kernel_rfl))) (laidMet.reads h'.1 (List.mem_of_getElem? (i:=3) (by kernel_rfl))) (laidMet.reads h'.1 (List.mem_of_getElem? (i:=2) (by kernel_rfl))) (laidMet.reads h'.1 (List.mem_of_getElem? (i:=5) (by kernel_rfl))) (laidMet.reads h'.1 (List.mem_of_getElem? (i:=4) (by kernel_rfl)))
theorem et:Tryz.prog.globalNamed "errors.errorType"=F 0:=by kernel_rfl
theorem rt:(Tryz.prog.cutTypes.find? (·.1== "internal/reflectlite.rtype")).map (·.2)=F 233:=by kernel_rfl
theorem Aik:((List.range Tryz.prog.types.size).filter fun t=>Tryz.prog.rowNamed t [101,114,114,111,114])=[61]:=by kernel_rfl
theorem U4 {W:Y} (h:laidMetH Tryz.prog Rows.loadNotesRow.laid W):H7 W:=by
 have h':laidMet Tryz.prog (Rows.loadNotesRow.laid.filter fun x=>x.2.handleName?.isNone) W/\handlesMet Tryz.prog [("errors.errorType",Rows.laid_errors_errorType)] W:=h;obtain⟨name,u,ty,e1,e2,e3,e4,e5⟩:=h'.2 _ (List.mem_singleton.2 rfl);have en:name=[101,114,114,111,114]:=(Option.some.inj e1).symm;subst en;obtain rfl:=Option.some.inj (rt.symm.trans e2);have hm:ty∈(List.range Tryz.prog.types.size).filter fun t=>Tryz.prog.rowNamed t [101,114,114,111,114]:=List.mem_filter.2 ⟨List.mem_range.2 e3,e4⟩;rw[Aik] at hm;obtain rfl:=List.mem_singleton.1 hm;have hh:typeHandle Tryz.prog 61=.pointer (F ⟨10,61,O⟩):=by kernel_rfl
 rw[hh] at e5;simpa[H7] using World.var?_cell et e5 0
theorem Aae: "*"++ "errors.errorString"= "*errors.errorString":=by decide
theorem Ai6 (u:TypeId) (h:Tryz.prog.typeName? 3 u=F "*errors.errorString"):u=382:=
 typeName_ptr_named (nm:= "errors.errorString") (by rw[Aae];kernel_rfl) (by kernel_rfl) (by decide) u (by rw[Aae];exact h)
theorem YE {W:Y} (h:laidMetH Tryz.prog Rows.loadNotesRow.laid W):∃ p,Ea.ErrS W p:=by
 have h':laidMet Tryz.prog (Rows.loadNotesRow.laid.filter fun x=>x.2.handleName?.isNone) W/\handlesMet Tryz.prog [("errors.errorType",Rows.laid_errors_errorType)] W:=h;have hg:Tryz.prog.globalNamed "sigillary/compose.errTree"=F 1:=by kernel_rfl
 obtain⟨a,s,hv,_⟩:=laid_sentinel (n:= "sigillary/compose.errTree") (nm:= "*errors.errorString") (text:=[110,111,32,103,114,97,112,104]) (tp:=382) (te:=384) (ts:=9) (ti:=61) h'.1.tail.tail.tail.tail.tail.tail hg (by kernel_rfl) Tryz.underlying61 Ai6 Tryz.underlying382 Tryz.underlying384 rfl rfl Tryz.underlying9 (by kernel_rfl) (by kernel_rfl);exact⟨a,by simpa[Ea.ErrS,Ea.etV] using World.var?_cell hg hv 0⟩
theorem Alf {W:Y} (h:laidMetH Tryz.prog Rows.loadNotesRow.laid W) (hs:W.ShapedOpen Tryz.prog):FP W:=⟨Zm h,U4 h,Ou.of_shaped hs,YE h⟩
theorem Akj (os:Os) (args:Array Value):laidMetH Tryz.prog Rows.loadNotesRow.laid ((XG os).forCall (fun _ _=>0) ⟨#[],args,[]⟩).memory:=
 laidMetH_of_parts (laidMet_of_run' 8 (by kernel_rfl) (by kernel_rfl)) (by kernel_rfl)
end
section
open Go
theorem Alu:laidOutB Tryz.prog=true:=by kernel_rfl
theorem Al3:mapsRowed Tryz.prog=true:=by kernel_rfl
end
end Go.Proofs.YtdpppepmkeinaaaGreatDoor
