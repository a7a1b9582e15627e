/- What is proved: a part of the walk of the program and of its plain laws; no condition beside those that each theorem names. -/
import Derived.Test.YtdpppepmkeinaaaGreatDoorYxo
import Derived.Test.YtdpppepmkeinaaaGreatDoorYa
namespace Go.Proofs.YtdpppepmkeinaaaGreatDoor
open Go Go.RowKit Go.Lib
open Go.Value renaming int->I,string->Q,slice->Z
open Go.IntKind renaming i64->J
open Option renaming none->O,some->F
open _root_.Go renaming World->Y
set_option linter.unusedSimpArgs false
set_option linter.unusedVariables false
set_option linter.unusedSectionVars false
section
set_option maxHeartbeats 2000000
set_option maxRecDepth 100000
theorem XZ (S S2:Nat->Prop) (x y:Nd) (KA KB IA IB:Option Addr) (kc kd ic id:Nat) (w:Y) (h1:GZ w S KA x.keys) (h2:Ja w S IA x.kids) (h3:GZ w S2 KB y.keys) (h4:Ja w S2 IB y.kids) (hn:x.keys.length<=1000000/\x.kids.length<=1000000):
  Calls Tryz.prog 28 #[.agg (Ps x (Z KA x.keys.length kc) (Z IA x.kids.length ic)).toArray,.agg (Ps y (Z KB y.keys.length kd) (Z IB y.kids.length id)).toArray] w fun e w'=>e=.returned (.bool (decide (x=y)))/\Below w.heap.size w w':=by
 have hd:decide (x=y)=(decide (x.kind=y.kind)&&decide (x.x=y.x)&&decide (x.keys=y.keys)&&decide (x.kids=y.kids)):=by
  cases x;cases y;simp[Bool.and_assoc]
 refine V.enter _ Tryz.func28 (Mem.start (C:=A5) w) ?_
 repeat (first | refine W ?_ | refine R.new fun _ _=>?_)
 have hto:∀ {w':Y} {S:Nat->Prop},B4 A5 w w'->∀ b o v,S b->w.cell? ⟨b,o,O⟩=F v->w'.cell? ⟨b,o,O⟩=F v/\S b:=fun hx b o v hb hv=>⟨hx.cell hv (fun e=>e),hb⟩
 by_cases e1:x.kind=y.kind
 ·refine R.re 10 (v:=.bool (x.kind==y.kind)) (v':=.bool true) (by simp[e1]) ?_
  repeat refine W ?_
  refine R.bin (ZV x.x y.x) ?_
  repeat refine W ?_
  by_cases e2:x.x=y.x
  ·refine R.re 17 (v:=.bool (decide (x.x=y.x))) (v':=.bool true) (by simp[e2]) ?_
   repeat refine W ?_
   refine R.c (fun w' h'=>Z9 S S2 KA KB kc kd x.keys y.keys w' (h1.to (hto h'.1)) (h3.to (hto h'.1)) hn.1) ?_
   repeat refine W ?_
   by_cases e3:x.keys=y.keys
   ·refine R.re 24 (v:=.bool (decide (x.keys=y.keys))) (v':=.bool true) (by simp[e3]) ?_
    repeat refine W ?_
    refine R.c (fun w' h'=>Afw S S2 IA IB ic id x.kids y.kids w' (h2.to (hto h'.1)) (h4.to (hto h'.1)) hn.2) ?_
    repeat refine W ?_
    refine V.end fun w' h'=>?_;exact⟨by rw[hd];simp[one,e1,e2,e3],h'.1.below⟩
   ·refine R.re 24 (v:=.bool (decide (x.keys=y.keys))) (v':=.bool false) (by simp[e3]) ?_
    repeat refine W ?_
    refine V.end fun w' h'=>?_;exact⟨by rw[hd];simp[one,e3],h'.1.below⟩
  ·refine R.re 17 (v:=.bool (decide (x.x=y.x))) (v':=.bool false) (by simp[e2]) ?_
   repeat refine W ?_
   refine V.end fun w' h'=>?_;exact⟨by rw[hd];simp[one,e2],h'.1.below⟩
 ·refine R.re 10 (v:=.bool (x.kind==y.kind)) (v':=.bool false) (by simp[e1]) ?_
  repeat refine W ?_
  refine V.end fun w' h'=>?_;exact⟨by rw[hd];simp[one,e1],h'.1.below⟩
theorem YI (S S2:Nat->Prop) (A B:Option Addr) (c c2:Nat) (ns ms:List Nd) (w:Y) (h:Fa w S A ns) (h2:Fa w S2 B ms) (hn:SmN ns):
  Calls Tryz.prog 31 #[Z A ns.length c,Z B ms.length c2,.func (.func 28) #[] #[]] w fun e w'=>e=.returned (.bool (decide (ns=ms)))/\Below w.heap.size w w':=by
 have hto:∀ {w':Y} {S:Nat->Prop},B4 A5 w w'->∀ b o v,S b->w.cell? ⟨b,o,O⟩=F v->w'.cell? ⟨b,o,O⟩=F v/\S b:=fun hx b o v hb hv=>⟨hx.cell hv (fun e=>e),hb⟩
 have hn1:=hn.1;refine V.enter _ Tryz.func31 (Mem.start (C:=A5) w) ?_
 repeat refine W ?_
 refine V.if (fun he=>?_) (fun he=>?_)
 ·repeat refine W ?_
  refine V.end fun w' h'=>?_;have:ns≠ms:=fun e=>by subst e;simp at he
  exact⟨by simp[one,this],h'.1.below⟩
 ·have hl:ns.length=ms.length:=by simp at he;omega
  repeat refine W ?_
  refine V.loop (fun k=>k<=ns.length/\∀ j,j<k->ns[j]? =ms[j]?) (fun _=>Mem A5 w []) (fun k=>[(17,I J k),(16,I J ns.length),(15,Z A ns.length c),(1,Z B ms.length c2),(2,.func (.func 28) #[] #[])]) (ns.length - ·) 0 ⟨by omega,fun j hj=>by omega⟩ (fun w h=>h) ⟨rfl,rfl,rfl,rfl,rfl,trivial⟩ ?_;rintro k ⟨hk,hne⟩
  repeat refine W ?_
  refine V.ifp (fun hlt=>?_) (fun hge=>?_)
  ·have hlt:k<ns.length:=by omega
   obtain⟨x,hx⟩:∃ x,ns[k]? =F x:=⟨_,List.getElem?_eq_getElem hlt⟩
   obtain⟨y,hy⟩:∃ y,ms[k]? =F y:=⟨_,List.getElem?_eq_getElem (by omega)⟩
   obtain⟨b,o,KA,kc,IA,ic,rfl,_,hc,Up,hi1⟩:=h k x hx;obtain⟨b2,o2,KB,kd,IB,id,rfl,_,hc2,hk2,hi2⟩:=h2 k y hy
   repeat refine W ?_
   refine R.ix hlt ?_;refine R.lo 0 hc ?_
   repeat (first | refine W ?_ | refine R.new fun _ _=>?_)
   refine R.ix (show k<ms.length by omega) ?_;refine R.lo 0 hc2 ?_
   repeat (first | refine W ?_ | refine R.new fun _ _=>?_)
   refine R.c (fun w' h'=>XZ S S2 x y KA KB IA IB kc kd ic id w' (Up.to (hto h'.1)) (hi1.to (hto h'.1)) (hk2.to (hto h'.1)) (hi2.to (hto h'.1)) (hn.2 x (List.mem_of_getElem? hx))) ?_
   repeat refine W ?_
   refine V.if (fun he=>?_) (fun he=>?_)
   ·repeat refine W ?_
    refine V.end fun w' h'=>?_;have:ns≠ms:=fun e=>by subst e;rw[hx] at hy;cases hy;simp at he
    exact⟨by simp[one,this],h'.1.below⟩
   ·repeat refine W ?_
    exact V.again (k+1) rfl ⟨hlt,fun j hj=>by
     by_cases e:j=k
     ·subst e;rw[hx,hy];simp at he;rw[he]
     ·exact hne j (by omega)⟩
  ·repeat refine W ?_
   refine V.end fun w' h'=>?_;have:ns=ms:=Wk hl (k:=k) (by omega) hne;exact⟨by simp[one,this],h'.1.below⟩
theorem DQ (S S2:Nat->Prop) (A B:Option Addr) (c c2:Nat) (g g2:Gf) (w:Y) (h:Fa w S A g.nodes) (h2:Fa w S2 B g2.nodes) (hn:SmN g.nodes):
  Calls Tryz.prog 14 #[Fx A c g,Fx B c2 g2] w fun e w'=>e=.returned (.bool (decide (g=g2)))/\Below w.heap.size w w':=by
 have hto:∀ {w':Y} {S:Nat->Prop},B4 A5 w w'->∀ b o v,S b->w.cell? ⟨b,o,O⟩=F v->w'.cell? ⟨b,o,O⟩=F v/\S b:=fun hx b o v hb hv=>⟨hx.cell hv (fun e=>e),hb⟩
 have hd:decide (g=g2)=(decide (g.root=g2.root)&&decide (g.nodes=g2.nodes)):=by cases g;cases g2;simp
 refine V.enter _ Tryz.func14 (Mem.start (C:=A5) w) ?_
 repeat (first | refine W ?_ | refine R.new fun _ _=>?_)
 by_cases e1:g.root=g2.root
 ·refine R.re 11 (v:=.bool (g.root==g2.root)) (v':=.bool true) (by simp[e1]) ?_
  repeat refine W ?_
  refine R.c (fun w' h'=>YI S S2 A B c c2 g.nodes g2.nodes w' (h.to (hto h'.1)) (h2.to (hto h'.1)) hn) ?_
  repeat refine W ?_
  refine V.end fun w' h'=>?_;exact⟨by rw[hd];simp[one,e1],h'.1.below⟩
 ·refine R.re 11 (v:=.bool (g.root==g2.root)) (v':=.bool false) (by simp[e1]) ?_
  repeat refine W ?_
  refine V.end fun w' h'=>?_;exact⟨by rw[hd];simp[one,e1],h'.1.below⟩
end
section
set_option maxRecDepth 100000
theorem SO (S:Nat->Prop) (rt:Sc->Bool) (g:Gf) (A:Option Addr) (c:Nat) (w:Y) (h:Fa w S A g.nodes) (hsm:SmN g.nodes) (hR:∀ x∈g.nodes,Bk 139 rt x.x w/\∀ y∈x.keys,Bk 139 rt y w) (hD:ES w S) (hg:Ea.ErrC w):
  Calls Tryz.prog 20 #[Fx A c g] w fun e w'=>e=.returned (.tuple #[I J (LY rt g).1,I J (LY rt g).2])/\Below w.heap.size w w':=by
 have h0:(LY rt g).2=0->(LY rt g).1=0:=by
  unfold LY;split
  ·intro e;cases e
  ·split
   ·intro e;cases e
   ·split
    ·intro e;cases e
    ·intro _;rfl
 obtain⟨p,hp⟩:∃ p,LY rt g=p:=⟨_,rfl⟩
 have hc:=VF S rt g A c;rw[hp] at h0 hc |-;refine V.enter _ Tryz.func20 (Mem.start (C:=A5) w) ?_
 repeat (first | refine W ?_ | refine R.new fun _ _=>?_)
 refine R.c (fun w' h'=>hc w' (h.to fun b o v hb hv=>⟨h'.1.cell hv (fun e=>e),hb⟩) hsm (fun x hx=>⟨(hR x hx).1.to h'.1.below,fun y hy=>((hR x hx).2 y hy).to h'.1.below⟩) (fun w1 A1 c1 ks hb hk=>hD w1 A1 c1 ks (h'.1.below.trans (hb.mono h'.1.below.size)) hk)) ?_;by_cases he:p.2=0
 ·refine R.re 5 (v:=wrG p) (v':=.nilIface) (by unfold wrG;rw[if_pos he]) ?_;refine R.c (fun w' h'=>Ea.a_told0 w') ?_
  repeat refine W ?_
  refine V.end fun w' h'=>?_;exact⟨by rw[he,h0 he];rfl,h'.1.below⟩
 ·refine R.re 5 (v:=wrG p) (v':=.iface 118 (.agg #[I J p.1,I J p.2])) (by unfold wrG;rw[if_neg he];rfl) ?_;refine R.c (fun w' h'=>Ea.a_told p.1 p.2 w' (h'.1.cell hg fun e=>e)) ?_
  repeat refine W ?_
  refine V.end fun w' h'=>?_;exact⟨rfl,h'.1.below⟩
end
section
set_option maxHeartbeats 4000000
set_option maxRecDepth 100000
theorem OQ {w w':Y} {S:Nat->Prop} (hx:B4 A5 w w'):∀ b o v,S b->w.cell? ⟨b,o,O⟩=F v->w'.cell? ⟨b,o,O⟩=F v/\S b:=fun b o v hb hv=>⟨hx.cell hv (fun e=>e),hb⟩
theorem NB (S:Nat->Prop) (A:Option Addr) (c:Nat) (ks:List Int) (w:Y) (h:Ja w S A ks) (hn:ks.length<=1000000):
  Calls Tryz.prog 84 #[Z A ks.length c] w fun e w'=>∃ v,e=.returned v/\Fr w w' [An 3 1 v ks.length (ks.map (I J))]:=by
 cases A with
 | none=>
  have:ks=[]:=by
   cases ks with
   | nil=>rfl
   | cons x r=>obtain⟨b,o,e,_⟩:=h 0 x rfl;cases e
  subst this;refine V.enter _ Tryz.func84 (Mem.start (C:=A5) w) ?_
  repeat refine W ?_
  refine V.end fun w' h'=>?_;exact⟨_,rfl,((h'.ownNil 3 1).sel:Mem A5 w [An 3 1 (Z O 0 0) 0 []] w').to_fr⟩
 | some ad=>
  have hcell:∀ w',B4 A5 w w'->∀ j u,(ks.map (Value.int .i64))[j]? =F u->w'.cell? (ad.add j)=F u:=fun w' hx j u hj=>by
   have hj0:=hj;rw[List.getElem?_map] at hj;obtain⟨x,h1,h2⟩:=Option.map_eq_some_iff.1 hj;obtain⟨b,o,e,_,hc⟩:=h _ x h1;cases e
   exact(hx.cs (h.cs) (fun e=>e)).add j u hj0
  refine V.enter _ Tryz.func84 (Mem.start (C:=A5) w) ?_
  repeat refine W ?_
  refine R.bo (m:=0) (sz:=1) (cs:=[]) rfl (by omega) fun b hb=>?_
  repeat refine W ?_
  refine R.app elI (k:=0) (m:=ks.length) (xs:=[]) (news:=ks.map (Value.int .i64)) (fun w h=>hcell w h.1) (by omega) (fun a c=>?_) (hl:=by simp) (h1:=Un ks)
  repeat refine W ?_
  refine V.end fun w' h'=>?_;rw[Nat.zero_add,List.nil_append] at h';exact⟨_,rfl,(h'.sel:Mem A5 w [_] w').to_fr⟩
theorem T4 (g:Gf) (c:Nat) (k:Nat) (x:Nd) (b o:Nat) (KA IA:Option Addr) (kl kc il ic:Nat) (w:Y) (hx:g.nodes[k]? =F x) (hc:Cs w b (o+k*6) (Ps x (Z KA kl kc) (Z IA il ic))):
  Calls Tryz.prog 143 #[Fx (F ⟨b,o,O⟩) c g,I J k] w fun e w'=>e=.returned (.tuple #[.agg (vwL x (Z KA kl kc) (Z IA il ic) g.nodes.length).toArray,I J 0])/\Below w.heap.size w w':=by
 have hlt:=(List.getElem?_eq_some_iff.1 hx).1;refine V.enter _ Tryz.func143 (Mem.start (C:=A5) w) ?_
 repeat (first | refine W ?_ | refine R.new fun _ _=>?_)
 refine R.c (fun w' h'=>LO g.root k _ g.nodes.length c w') ?_;refine R.re 8 (v:=.bool (decide (0<=(k:Int))&&decide ((k:Int)<g.nodes.length))) (v':=.bool true) (by simp;omega) ?_
 repeat refine W ?_
 refine R.ix hlt ?_;refine R.lo 0 hc ?_
 repeat refine W ?_
 refine W ?_ (by exact R.st (hp:=.inr (.inl ⟨rfl,by kernel_rfl⟩)))
 repeat refine W ?_
 refine V.end (fun w' h'=>?_) (hv:=.agg rfl (by(repeat (first | exact List.Mem.head _ | apply List.Mem.tail))) (by intro w;kernel_rfl) (by intro w;simp;try rfl) (.tmp rfl .nil));exact⟨rfl,h'.1.below⟩
def Fe (p:Sc×Int):List Value:=[I J p.1.kind,I J p.1.num,Q p.1.str,I J p.2]
theorem elP:El Tryz.prog 271 274 4 40:=⟨by kernel_rfl,by kernel_rfl,by decide,by decide⟩
def psA (v:Value) (ps:List (Sc×Int)):Aw:=An 274 4 v ps.length (ps.flatMap Fe)
def NM (n:Nat):Prop:=∀ (ps:List (Sc×Int)) (v:Value) (w:Y),ps.length=n->(ps.map (·.1)).Nodup→
 Ex Tryz.prog 181 #[v,.func (.func 182) #[] #[]] w (psA v ps) (fun _:Unit=>.tuple #[]) (fun _=>psA v (Qm ps))
theorem Kr:∀ (ps:List (Sc×Int)) (i:Nat) (p:Sc×Int),ps[i]? =F p->(ps.flatMap Fe).drop (i*4)=Fe p++(ps.drop (i+1)).flatMap Fe
 | y::r,0,p,h=>by cases h;rfl
 | y::r,i+1,p,h=>by
  have:=Kr r i p h;rw[List.flatMap_cons,show(i+1)*4=4+i*4 by omega,<- List.drop_drop];have e:(Fe y++r.flatMap Fe).drop 4=r.flatMap Fe:=List.drop_left' rfl;rw[e,this];rfl
theorem X5 {C:Nat->Prop} {w0 w:Y} {A:List Aw} (h:Mem C w0 A w):Mem C w0 (psA (Z O 0 0) []::A) w:=h.ownNil _ _
theorem Aan {α β:Type} {l:List α} {m:List β} {i:Nat} {x:α} {y:β} (h1:l[i]? =F x) (h2:m[i]? =F y):(l.zip m).take (i+1)=(l.zip m).take i++[(x,y)]:=by
 rw[List.take_add_one];congr 1;rw[List.zip,List.getElem?_zipWith,h1,h2];rfl
theorem L6 (S:Nat->Prop) (x:Nd) (KA IA:Option Addr) (kc ic:Nat) (n:Nat) (w:Y) (hk:GZ w S KA x.keys) (hi:Ja w S IA x.kids) (hn:x.keys.length<=1000000/\x.kids.length<=1000000) (hnd:x.keys.Nodup) (hS:NM x.keys.length):
  Calls Tryz.prog 144 #[.agg (vwL x (Z KA x.keys.length kc) (Z IA x.kids.length ic) n).toArray] w fun e w'=>∃ v,e=.returned v/\Fr w w' [psA v (Gb x)]:=by
 have hn1:=hn.1;refine V.enter _ Tryz.func144 (Mem.start (C:=A5) w) ?_;refine W ?_;refine R.new fun b1 h1=>?_
 repeat refine W ?_
 by_cases e1:x.kind=2
 ·refine R.re 10 (v:=.bool (x.kind !=2)) (v':=.bool false) (by simp[e1]) ?_
  repeat refine W ?_
  refine R.c (fun w' h'=>LB x KA IA x.keys.length kc x.kids.length ic n w') ?_;by_cases e2:x.keys.length=x.kids.length
  ·refine R.re 12 (v:=.bool (decide (x.keys.length=x.kids.length))) (v':=.bool true) (by simp[e2]) ?_
   repeat refine W ?_
   refine V.loop (ι:=Nat×Option Addr×Nat) (fun p=>p.1<=x.keys.length) (fun p=>Mem A5 w [blk b1 (vwL x (Z KA x.keys.length kc) (Z IA x.kids.length ic) n) 125,An 274 4 (Z p.2.1 p.1 p.2.2) p.1 (((x.keys.zip x.kids).take p.1).flatMap Fe)])
    (fun p=>[(19,I J p.1),(18,I J x.keys.length),(17,Z KA x.keys.length kc),(1,.pointer (F ⟨b1,0,O⟩)),(3,Z p.2.1 p.1 p.2.2)]) (fun p=>x.keys.length - p.1) (0,O,0) (Nat.zero_le _) (fun w' h'=>(h'.ownNil 274 4).sel) ⟨rfl,rfl,rfl,rfl,rfl,trivial⟩ ?_
   rintro⟨i,a,ac⟩ hil;dsimp only at hil
   repeat refine W ?_
   refine V.ifp (fun hlt=>?_) (fun hge=>?_)
   ·have hlt:i<x.keys.length:=by omega
    obtain⟨y,hy⟩:∃ y,x.keys[i]? =F y:=⟨_,List.getElem?_eq_getElem hlt⟩
    obtain⟨z,hz⟩:∃ z,x.kids[i]? =F z:=⟨_,List.getElem?_eq_getElem (by omega)⟩
    obtain⟨b,o,rfl,_,hc⟩:=hk i y hy;obtain⟨b2,o2,rfl,_,hc2⟩:=hi i z hz
    repeat refine W ?_
    refine R.ix hlt ?_;refine R.lo 0 hc ?_;refine R.new fun b5 h5=>?_;iterate 4 refine W ?_
    refine Zz.on (Mem A5 w [blk b1 (vwL x (Z (F ⟨b,o,O⟩) x.keys.length kc) (Z (F ⟨b2,o2,O⟩) x.kids.length ic) n) 125,blk b5 (Fl y) 36]) ?_
    repeat refine Wz ?_
    refine Zz.ix (show i<x.kids.length by omega) ?_;refine Zz.lo 0 hc2 ?_
    repeat refine Wz ?_
    refine Zz.bs fun bn hbn=>?_;refine Zz.app elP (k:=i) (m:=1) (news:=Fe (y,z)) (fun w' h'=>(Cs.of_blk (h'.blk (List.Mem.head _))).add) (by omega) (fun a2 c2=>?_);refine Zz.off (fun w' h'=>h'.sel) ?_
    repeat refine W ?_
    refine V.again (i+1,a2,c2) rfl hlt (hs:=fun w' h'=>?_);rw[show Fe (y,z)=[(y,z)].flatMap Fe by simp,<- List.flatMap_append,<- Aan hy hz] at h';exact h'.sel
   ·have hi2:i=x.keys.length:=by omega
    subst hi2;have hzl:(x.keys.zip x.kids).length=x.keys.length:=by rw[List.length_zip];omega
    rw[List.take_of_length_le (by omega)];have hprs:Gb x=Qm (x.keys.zip x.kids):=by unfold Gb;rw[if_pos ⟨e1,e2⟩]
    have hsl:(Qm (x.keys.zip x.kids)).length=x.keys.length:=by rw[(Ef _).length_eq,hzl]
    repeat refine W ?_
    refine R.cw (X:=An 274 4 (Z a x.keys.length ac) x.keys.length ((x.keys.zip x.kids).flatMap Fe)) (X':=fun _=>psA (Z a x.keys.length ac) (Qm (x.keys.zip x.kids))) (v:=fun _:Unit=>.tuple #[]) (fun w' h'=>?_) (fun _=>?_)
    ·have:=hS (x.keys.zip x.kids) (Z a x.keys.length ac) w' hzl (by rw[List.map_fst_zip (by omega)];exact hnd);unfold psA at this |-
     rwa [hzl] at this
    repeat refine W ?_
    refine V.end fun w' h'=>?_;exact⟨_,rfl,by rw[hprs];exact(h'.sel:Mem A5 w [_] w').to_fr⟩
  ·refine R.re 12 (v:=.bool (decide (x.keys.length=x.kids.length))) (v':=.bool false) (by simp[e2]) ?_
   repeat refine W ?_
   refine V.end fun w' h'=>?_;have hprs:Gb x=[]:=by unfold Gb;rw[if_neg (fun h=>e2 h.2)]
   exact⟨_,rfl,by rw[hprs];exact(X5 (h'.sel:Mem A5 w [] w')).to_fr⟩
 ·refine R.re 10 (v:=.bool (x.kind !=2)) (v':=.bool true) (by simp[e1]) ?_
  repeat refine W ?_
  refine V.end fun w' h'=>?_;have hprs:Gb x=[]:=by unfold Gb;rw[if_neg (fun h=>e1 h.1)]
  exact⟨_,rfl,by rw[hprs];exact(X5 (h'.sel:Mem A5 w [] w')).to_fr⟩
end
section
set_option maxHeartbeats 4000000
set_option maxRecDepth 100000
structure Ot (w:Y) (S:Nat->Prop) (A:Option Addr) (g:Gf) (k:Nat) (x:Nd):Prop where
 nds:Fa w S A g.nodes
 get:g.nodes[k]? =F x
 small:x.keys.length<=1000000/\x.kids.length<=1000000
 once:x.keys.Nodup
 sort:NM x.keys.length
theorem Ot.ext {w w':Y} {S:Nat->Prop} {A:Option Addr} {g:Gf} {k:Nat} {x:Nd} (h:Ot w S A g k x) (hx:B4 A5 w w'):Ot w' S A g k x:=⟨h.nds.to (OQ hx),h.get,h.small,h.once,h.sort⟩
theorem ML (x:Nd):(Gb x).length<=x.keys.length:=by
 unfold Gb;split
 ·rw[(Ef _).length_eq,List.length_zip];omega
 ·exact Nat.zero_le _
theorem UM (S:Nat->Prop) (g:Gf) (A:Option Addr) (c k:Nat) (x:Nd) (w:Y) (h:Ot w S A g k x):
  Calls Tryz.prog 102 #[Fx A c g,I J k] w fun e w'=>∃ v,e=.returned (.tuple #[v,I J 0])/\Fr w w' [An 3 1 v (Fk x).length ((Fk x).map (I J))]:=by
 obtain⟨b,o,KA,kc,IA,ic,rfl,_,hc,hk,hi⟩:=h.nds k x h.get;have hs:=h.small;have hpl:=ML x;have hL:Mem A5 w [] w:=Mem.start w;refine V.enter _ Tryz.func102 (Mem.start (C:=A5) w) ?_;refine W ?_;refine R.new fun b2 h2=>?_
 repeat refine W ?_
 refine R.c (fun w' h'=>T4 g c k x b o KA IA x.keys.length kc x.kids.length ic w' h.get (h'.1.cs hc (fun e=>e))) ?_
 repeat refine W ?_
 refine R.new fun b6 h6=>?_
 repeat refine W ?_
 by_cases e1:x.kind=1
 ·refine V.re 24 (v:=.bool (x.kind==1)) (v':=.bool true) (by simp[e1]) ?_
  repeat refine W ?_
  refine R.cf (fun w' h'=>NB S IA ic x.kids w' (hi.to (OQ h'.1)) hs.2) (fun v=>?_)
  repeat refine W ?_
  refine V.end fun w' h'=>?_;have hkn:Fk x=x.kids:=by unfold Fk;rw[if_pos e1]
  exact⟨_,rfl,by rw[hkn];exact(h'.sel:Mem A5 w [_] w').to_fr⟩
 ·have hkn:Fk x=(Gb x).map (·.2):=by unfold Fk;rw[if_neg e1]
  refine V.re 24 (v:=.bool (x.kind==1)) (v':=.bool false) (by simp[e1]) ?_
  repeat refine W ?_
  refine R.cf (fun w' h'=>L6 S x KA IA kc ic g.nodes.length w' (hk.to (OQ h'.1)) (hi.to (OQ h'.1)) hs h.once h.sort) (fun pv=>?_);refine R.know (p:=(pv=Z O 0 0/\(Gb x).length=0)\/∃ g c,pv=Z (F ⟨g,0,O⟩) (Gb x).length c) (fun w' h'=>Co h' (List.Mem.head _)) fun hpv=>?_;obtain⟨PA,pc,rfl⟩:∃ PA pc,pv=Z PA (Gb x).length pc:=by
   rcases hpv with ⟨e,e0⟩ | ⟨g,c,e⟩
   ·exact⟨O,0,by rw[e,e0]⟩
   ·exact⟨_,c,e⟩
  obtain⟨ps,hps⟩:∃ ps,Gb x=ps:=⟨_,rfl⟩
  rw[hps] at hkn hpl hpv |-
  repeat refine W ?_
  refine V.loop (ι:=Nat×Option Addr×Nat) (fun p=>p.1<=ps.length) (fun p=>Mem A5 w [An 274 4 (Z PA ps.length pc) ps.length (ps.flatMap Fe),An 3 1 (Z p.2.1 p.1 p.2.2) p.1 ((ps.take p.1).map fun q=>I J q.2)])
   (fun p=>[(33,I J p.1),(32,I J ps.length),(31,Z PA ps.length pc),(7,I J 0),(8,Z p.2.1 p.1 p.2.2)]) (fun p=>ps.length - p.1) (0,O,0) (Nat.zero_le _) (fun w' h'=>(h'.ownNil 3 1).sel) ⟨rfl,rfl,rfl,rfl,rfl,trivial⟩ ?_
  rintro⟨i,a,ac⟩ hil;dsimp only at hil
  repeat refine W ?_
  refine V.ifp (fun hlt=>?_) (fun hge=>?_)
  ·have hlt:i<ps.length:=by omega
   obtain⟨p,hp⟩:∃ p,ps[i]? =F p:=⟨_,List.getElem?_eq_getElem hlt⟩
   have hPA:∃ g,PA=F ⟨g,0,O⟩:=by
    rcases hpv with ⟨_,e0⟩ | ⟨g,c,e⟩
    ·omega
    ·cases e;exact⟨g,rfl⟩
   obtain⟨pg,rfl⟩:=hPA
   repeat refine W ?_
   refine R.ix hlt ?_;refine R.lw (v:=.agg (Fe p).toArray) ?_ ?_
   ·rw[Nat.zero_add,Kr ps i p hp];rfl
   refine R.new fun b10 h10=>?_
   repeat refine W ?_
   refine R.bs fun bn hbn=>?_;refine R.app elI (k:=i) (m:=1) (news:=[I J p.2]) (fun w' h'=>(Cs.of_blk (h'.blk (List.Mem.head _))).add) (by omega) (fun a2 c2=>?_)
   repeat refine W ?_
   refine V.again (i+1,a2,c2) rfl hlt (hs:=fun w' h'=>?_);have e:(ps.take (i+1)).map (fun q=>Value.int .i64 q.2)=(ps.take i).map (fun q=>Value.int .i64 q.2)++[I J p.2]:=by
    rw[List.take_add_one,hp];simp
   rw[<- e] at h';exact h'.sel
  ·have hi2:i=ps.length:=by omega
   subst hi2;rw[List.take_of_length_le Nr]
   repeat refine W ?_
   refine V.end fun w' h'=>?_;have h2:Mem A5 w [An 3 1 (Z a ps.length ac) ps.length ((ps.map (·.2)).map (I J))] w':=by rw[List.map_map];exact h'.sel
   refine⟨_,rfl,?_⟩;rw[hkn,List.length_map];exact h2.to_fr
theorem Ux (S:Nat->Prop) (g:Gf) (A:Option Addr) (c k:Nat) (x:Nd) (w:Y) (h:Ot w S A g k x):
  Calls Tryz.prog 234 #[Fx A c g,I J k] w fun e w'=>∃ v,e=.returned (.tuple #[v,I J 0])/\Fr w w' [An 36 3 v (Et x).length ((Et x).flatMap Fl)]:=by
 obtain⟨b,o,KA,kc,IA,ic,rfl,_,hc,hk,hi⟩:=h.nds k x h.get;have hs:=h.small;have hpl:=ML x;refine V.enter _ Tryz.func234 (Mem.start (C:=A5) w) ?_;refine W ?_;refine R.new fun b2 h2=>?_
 repeat refine W ?_
 refine R.c (fun w' h'=>T4 g c k x b o KA IA x.keys.length kc x.kids.length ic w' h.get (h'.1.cs hc (fun e=>e))) ?_
 repeat refine W ?_
 refine R.new fun b6 h6=>?_
 repeat refine W ?_
 refine R.cf (fun w' h'=>L6 S x KA IA kc ic g.nodes.length w' (hk.to (OQ h'.1)) (hi.to (OQ h'.1)) hs h.once h.sort) (fun pv=>?_);refine R.know (p:=(pv=Z O 0 0/\(Gb x).length=0)\/∃ g c,pv=Z (F ⟨g,0,O⟩) (Gb x).length c) (fun w' h'=>Co h' (List.Mem.head _)) fun hpv=>?_;obtain⟨PA,pc,rfl⟩:∃ PA pc,pv=Z PA (Gb x).length pc:=by
  rcases hpv with ⟨e,e0⟩ | ⟨g,c,e⟩
  ·exact⟨O,0,by rw[e,e0]⟩
  ·exact⟨_,c,e⟩
 obtain⟨ps,hps⟩:∃ ps,Gb x=ps:=⟨_,rfl⟩
 have hkn:Et x=ps.map (·.1):=by unfold Et;rw[hps]
 rw[hps] at hpl hpv |-
 repeat refine W ?_
 refine V.loop (ι:=Nat×Option Addr×Nat) (fun p=>p.1<=ps.length) (fun p=>Mem A5 w [An 274 4 (Z PA ps.length pc) ps.length (ps.flatMap Fe),An 36 3 (Z p.2.1 p.1 p.2.2) p.1 (((ps.take p.1).map (·.1)).flatMap Fl)])
  (fun p=>[(20,I J p.1),(19,I J ps.length),(18,Z PA ps.length pc),(7,I J 0),(8,Z p.2.1 p.1 p.2.2)]) (fun p=>ps.length - p.1) (0,O,0) (Nat.zero_le _) (fun w' h'=>(h'.ownNil 36 3).sel) ⟨rfl,rfl,rfl,rfl,rfl,trivial⟩ ?_
 rintro⟨i,a,ac⟩ hil;dsimp only at hil
 repeat refine W ?_
 refine V.ifp (fun hlt=>?_) (fun hge=>?_)
 ·have hlt:i<ps.length:=by omega
  obtain⟨p,hp⟩:∃ p,ps[i]? =F p:=⟨_,List.getElem?_eq_getElem hlt⟩
  have hPA:∃ g,PA=F ⟨g,0,O⟩:=by
   rcases hpv with ⟨_,e0⟩ | ⟨g,c,e⟩
   ·omega
   ·cases e;exact⟨g,rfl⟩
  obtain⟨pg,rfl⟩:=hPA
  repeat refine W ?_
  refine R.ix hlt ?_;refine R.lw (v:=.agg (Fe p).toArray) ?_ ?_
  ·rw[Nat.zero_add,Kr ps i p hp];rfl
  refine R.new fun b10 h10=>?_
  repeat refine W ?_
  refine R.bs fun bn hbn=>?_;refine R.app elS (k:=i) (m:=1) (news:=Fl p.1) (fun w' h'=>(Cs.of_blk (h'.blk (List.Mem.head _))).add) (by omega) (fun a2 c2=>?_)
  repeat refine W ?_
  refine V.again (i+1,a2,c2) rfl hlt (hs:=fun w' h'=>?_);have e:((ps.take (i+1)).map (·.1)).flatMap Fl=((ps.take i).map (·.1)).flatMap Fl++Fl p.1:=by
   rw[List.take_add_one,hp];simp
  rw[<- e] at h';exact h'.sel
 ·have hi2:i=ps.length:=by omega
  subst hi2;rw[List.take_of_length_le Nr]
  repeat refine W ?_
  refine V.end fun w' h'=>?_;refine⟨_,rfl,?_⟩;rw[hkn,List.length_map];exact(h'.sel:Mem A5 w [_] w').to_fr
end
section
set_option maxRecDepth 100000
def RY:Prop:=∀ (x y:Sc) (w:Y),Calls Tryz.prog 183 #[Ev x,Ev y] w fun e w'=>e=.returned (I J (DG x y))/\Below w.heap.size w w'
theorem Acx (hC:RY) (p q:Sc×Int) (w:Y):Calls Tryz.prog 182 #[.agg (Fe p).toArray,.agg (Fe q).toArray] w fun e w'=>e=.returned (I J (DG p.1 q.1))/\Below w.heap.size w w':=by
 refine V.enter _ Tryz.func182 (Mem.start (C:=A5) w) ?_
 repeat (first | refine W ?_ | refine R.new fun _ _=>?_)
 refine R.c (fun w' h'=>hC p.1 q.1 w') ?_
 repeat refine W ?_
 refine V.end fun w' h'=>?_;exact⟨rfl,h'.1.below⟩
theorem Afz (l:List (Sc×Int)):(l.flatMap Fe).length=l.length*4:=by
 induction l with
 | nil=>rfl
 | cons y r ih=>rw[List.flatMap_cons,List.length_append,ih,List.length_cons];show 4+_=_;omega
theorem Xl (A R:List (Sc×Int)) (x y:Sc×Int):Bo ((A++x::R).flatMap Fe) (A.length*4) (Fe y)=F ((A++y::R).flatMap Fe):=by
 have hn:∀ l:List Value,Bo l 0 []=F l:=by intro l;cases l<;>rfl
 have h0:Bo (Fe x++R.flatMap Fe) 0 (Fe y)=F (Fe y++R.flatMap Fe):=by
  show(match (match (match (match Bo (R.flatMap Fe) 0 [] with | some r=>F (_::r) | none=>O) with | some r=>F (_::r) | none=>O) with | some r=>F (_::r) | none=>O) with | some r=>F (_::r) | none=>O)=_;rw[hn];rfl
 rw[List.flatMap_append,List.flatMap_append,List.flatMap_cons,List.flatMap_cons];have:=Ee (A.flatMap Fe) _ 0 _ _ h0
 rwa [Afz,Nat.add_zero] at this
theorem Adf (A R:List (Sc×Int)) (x:Sc×Int):((A++x::R).flatMap Fe).drop (A.length*4)=Fe x++R.flatMap Fe:=by
 rw[Kr _ _ x (by simp)];congr 2;rw[<- List.drop_drop,List.drop_left];rfl
def UT (l:List (Sc×Int)):Prop:=l.Pairwise (fun a b=>DG a.1 b.1<=0)
theorem S8 {A B:List (Sc×Int)} {x:Sc×Int} (hs:UT (A++B)) (hB:∀ y∈B,DG x.1 y.1<=0) (hA:∀ y,A.getLast? =F y->DG y.1 x.1<=0):UT (A++x::B):=by
 obtain⟨h1,h2,h3⟩:=List.pairwise_append.1 hs;refine List.pairwise_append.2 ⟨h1,List.pairwise_cons.2 ⟨hB,h2⟩,fun a ha b hb=>?_⟩;rcases List.mem_cons.1 hb with rfl | hb
 ·rcases List.eq_nil_or_concat A with rfl | ⟨A',z,rfl⟩
  ·cases ha
  ·rw[List.concat_eq_append] at ha hA h1;have hz:=hA z (by simp);rcases List.mem_append.1 ha with ha | ha
   ·exact Aha ((List.pairwise_append.1 h1).2.2 a ha z (by simp)) hz
   ·rw[List.mem_singleton] at ha;subst ha;exact hz
 ·exact h3 a ha b hb
end
section
set_option maxHeartbeats 8000000
set_option maxRecDepth 100000
abbrev pA (v:Value) (n:Nat) (l:List (Sc×Int)):Aw:=An 274 4 v n (l.flatMap Fe)
theorem Aeb (hC:RY) (n:Nat) (ps:List (Sc×Int)) (v:Value) (w:Y) (hn:ps.length=n) (hb:n<=1000000):
  Ex Tryz.prog 244 #[v,I J 0,I J n,.func (.func 182) #[] #[]] w (pA v n ps) (fun _:{l:List (Sc×Int) // UT l/\l.Perm ps}=>.tuple #[]) (fun l=>pA v n l.1):=by
 intro Fz hX hF;have hsh:(v=Z O 0 0/\n=0)\/∃ g c,v=Z (F ⟨g,0,O⟩) n c:=Co (Mem.startX hX hF) (List.Mem.head _);obtain⟨PA,pc,rfl⟩:∃ PA pc,v=Z PA n pc:=by
  rcases hsh with ⟨e,e0⟩ | ⟨g,c,e⟩
  ·exact⟨O,0,by rw[e,e0]⟩
  ·exact⟨_,c,e⟩
 have hPA:0<n->∃ g,PA=F ⟨g,0,O⟩:=fun h0=>by
  rcases hsh with ⟨_,e0⟩ | ⟨g,c,e⟩
  ·omega
  ·cases e;exact⟨g,rfl⟩
 refine V.enter _ Tryz.func244 (Mem.startX hX hF) ?_
 repeat refine W ?_
 refine V.loop (ι:=Nat×List (Sc×Int)×List (Sc×Int)) (fun p=>1<=p.1/\p.1<=n+1/\(p.2.1.length=p.1\/n=0)/\UT p.2.1/\(p.2.1++p.2.2).Perm ps) (fun p=>Mem Fz w [pA (Z PA n pc) n (p.2.1++p.2.2)])
  (fun p=>[(8,I J p.1),(0,Z PA n pc),(1,I J 0),(2,I J n),(3,.func (.func 182) #[] #[])]) (fun p=>n+1 - p.1) (1,ps.take 1,ps.drop 1) ⟨Nat.le_refl _,by omega,by
   rcases Nat.eq_zero_or_pos n with h | h
   ·exact .inr h
   ·exact .inl (by rw[List.length_take];omega),by
   match ps with
   | []=>exact List.Pairwise.nil
   | x::r=>exact List.pairwise_singleton ..,by rw[List.take_append_drop]⟩ (fun w h=>by dsimp only;rw[List.take_append_drop];exact h) ⟨rfl,rfl,rfl,rfl,rfl,trivial⟩ ?_
 rintro⟨i,P,Qz⟩ ⟨hi1,hin,hPl,hP,hp⟩;dsimp only at hi1 hin hPl hP hp;have hlen:=hp.length_eq;rw[List.length_append,hn] at hlen
 repeat refine W ?_
 refine V.ifp (fun hlt=>?_) (fun hge=>?_)
 ·have hlt:i<n:=by omega
  have hPl:P.length=i:=hPl.resolve_right (by omega);obtain⟨g,rfl⟩:=hPA (by omega);obtain⟨x,Q',rfl⟩:∃ x Q',Qz=x::Q':=by
   cases Qz with
   | nil=>rw[List.length_nil] at hlen;omega
   | cons x Q'=>exact⟨x,Q',rfl⟩
  rw[List.length_cons] at hlen
  repeat refine W ?_
  refine V.loop (ι:=List (Sc×Int)×List (Sc×Int)) (fun p=>UT (p.1++p.2)/\(p.1++p.2).Perm P/\∀ y∈p.2,DG x.1 y.1<=0) (fun p=>Mem Fz w [pA (Z (F ⟨g,0,O⟩) n pc) n (p.1++x::(p.2++Q'))])
   (fun p=>[(9,I J p.1.length),(8,I J i),(0,Z (F ⟨g,0,O⟩) n pc),(1,I J 0),(2,I J n),(3,.func (.func 182) #[] #[])]) (fun p=>p.1.length) (P,[]) ⟨by rw[List.append_nil];exact hP,by rw[List.append_nil],fun y hy=>by cases hy⟩ (fun w h=>h) ⟨by rw[hPl];rfl,rfl,rfl,rfl,rfl,rfl,trivial⟩ ?_
  rintro⟨A,B⟩ ⟨hs,hpm,hB⟩;dsimp only at hs hpm hB;have hAB:=hpm.length_eq;rw[List.length_append,hPl] at hAB;have fin:UT (A++x::B)->((A++x::B)++Q').Perm ps:=fun _=>by
   refine List.Perm.trans ?_ hp;rw[show P++x::Q'=P++[x]++Q' by simp];refine List.Perm.append_right _ ?_;exact List.perm_middle.trans ((List.Perm.cons x hpm).trans (List.perm_append_comm (l₁:=[x]) (l₂:=P)))
  rcases List.eq_nil_or_concat A with rfl | ⟨A',y,rfl⟩
  ·repeat refine W ?_
   have hst:=S8 (A:=[]) hs hB (fun y hy=>by cases hy);refine V.again (i+1,x::B,Q') rfl ⟨by omega,by omega,.inl (by simp at hAB |-;omega),hst,fin hst⟩ (hs:=fun w' h'=>by rw[show(x::B)++Q'=[]++x::(B++Q') from rfl];exact h'.sel)
  ·rw[List.concat_eq_append] at hs hpm hAB fin |-;rw[List.length_append,List.length_singleton] at hAB;obtain⟨T,hT⟩:∃ T,B++Q'=T:=⟨_,rfl⟩
   dsimp only
   rw[List.length_append,List.length_singleton,hT];have hat1:((A'++[y]++x::T).flatMap Fe).drop ((A'.length+1)*4)=Fe x++T.flatMap Fe:=by
    have:=Adf (A'++[y]) T x
    rwa [List.length_append,List.length_singleton] at this
   have hat2:((A'++[y]++x::T).flatMap Fe).drop (A'.length*4)=Fe y++(x::T).flatMap Fe:=by
    rw[List.append_assoc];exact Adf A' (x::T) y
   have hst1:Bo ((A'++[y]++x::T).flatMap Fe) ((A'.length+1)*4) (Fe y)=F ((A'++[y]++y::T).flatMap Fe):=by
    have:=Xl (A'++[y]) T x y
    rwa [List.length_append,List.length_singleton] at this
   have hst2:Bo ((A'++[y]++y::T).flatMap Fe) (A'.length*4) (Fe x)=F ((A'++x::y::T).flatMap Fe):=by
    rw[List.append_assoc];exact Xl A' (y::T) y x
   repeat refine W ?_
   refine R.ix (show A'.length+1<n by omega) ?_;refine R.lw (v:=.agg (Fe x).toArray) ?_ ?_
   ·rw[Nat.zero_add,hat1];rfl
   repeat refine W ?_
   refine R.re 29 (v:=I J ((A'.length:Int)+1 - 1)) (v':=I J A'.length) (by congr 1;omega) ?_;refine R.ix (show A'.length<n by omega) ?_;refine R.lw (v:=.agg (Fe y).toArray) ?_ ?_
   ·rw[Nat.zero_add,hat2];rfl
   refine R.c (fun w' h'=>Acx hC x y w') ?_
   repeat refine W ?_
   refine V.ifp (fun hc=>?_) (fun hc=>?_)
   ·repeat refine W ?_
    refine R.re 41 (v:=I J ((A'.length:Int)+1 - 1)) (v':=I J A'.length) (by congr 1;omega) ?_;refine R.re 44 (v:=I J ((A'.length:Int)+1 - 1)) (v':=I J A'.length) (by congr 1;omega) ?_;refine R.ix (show A'.length<n by omega) ?_;refine R.lw (v:=.agg (Fe y).toArray) ?_ ?_
    ·rw[Nat.zero_add,hat2];rfl
    repeat refine W ?_
    refine R.ix (show A'.length+1<n by omega) ?_;refine R.lw (v:=.agg (Fe x).toArray) ?_ ?_
    ·rw[Nat.zero_add,hat1];rfl
    refine R.ix (show A'.length+1<n by omega) ?_;refine R.sw (v:=.agg (Fe y).toArray) (xs':=(A'++[y]++y::T).flatMap Fe) ?_ ?_ (hp:=.inr (.inl ⟨rfl,by kernel_rfl⟩))
    ·rw[Nat.zero_add];exact hst1
    refine R.ix (show A'.length<n by omega) ?_;refine R.sw (v:=.agg (Fe x).toArray) (xs':=(A'++x::y::T).flatMap Fe) ?_ ?_ (hp:=.inr (.inl ⟨rfl,by kernel_rfl⟩))
    ·rw[Nat.zero_add];exact hst2
    repeat refine W ?_
    subst hT;refine V.again (A',y::B) rfl ⟨by rw[List.append_assoc] at hs;exact hs,by rw[List.append_assoc] at hpm;exact hpm,fun z hz=>?_⟩;rcases List.mem_cons.1 hz with rfl | hz
    ·omega
    ·exact hB z hz
   ·repeat refine W ?_
    subst hT;have hst:=S8 hs hB (fun z hz=>by
     simp at hz;have:=EX.sym x.1 y.1;rw[<- hz];omega)
    refine V.again (i+1,A'++[y]++x::B,Q') rfl ⟨by omega,by omega,.inl (by simp only[List.length_append,List.length_cons,List.length_nil];omega),hst,fin hst⟩ (hs:=fun w' h'=>by
     dsimp only
     rw[show(A'++[y]++x::B)++Q'=A'++[y]++x::(B++Q') by simp];exact h'.sel)
 ·repeat refine W ?_
  refine V.end fun w' h'=>?_;have hR:Qz=[]:=by
   rcases hPl with h | h
   ·have:Qz.length=0:=by omega
    exact List.eq_nil_of_length_eq_zero this
   ·have:Qz.length=0:=by omega
    exact List.eq_nil_of_length_eq_zero this
  subst hR;rw[List.append_nil] at hp h';exact⟨⟨P,hP,hp⟩,rfl,Mem.toW h'.sel⟩
end
end Go.Proofs.YtdpppepmkeinaaaGreatDoor
