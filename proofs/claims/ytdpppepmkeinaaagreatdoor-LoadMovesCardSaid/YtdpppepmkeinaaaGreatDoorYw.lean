/- What is proved: a part of the walk of the program and of its plain laws; no condition beside those that each theorem names. -/
import Derived.Test.YtdpppepmkeinaaaGreatDoorYp
import Derived.Test.YtdpppepmkeinaaaGreatDoorYv
import Derived.Test.YtdpppepmkeinaaaGreatDoorYu
import Derived.Test.YtdpppepmkeinaaaGreatDoorYa
import Derived.Test.YtdpppepmkeinaaaGreatDoorProg
namespace Go.Proofs.YtdpppepmkeinaaaGreatDoor
open Go Go.RowKit Go.Lib
open Go.Value renaming int->I,string->Q,slice->Z
open Go.IntKind renaming i64->J
open Option renaming none->O,some->F
open _root_.Go renaming World->Y
set_option linter.unusedSimpArgs false
set_option linter.unusedVariables false
set_option linter.unusedSectionVars false
section
theorem Eh.fr {w w':Y} {v:Value} {ts:List Sc} (h:Eh w' w.heap.size v ts) (hb:Below w.heap.size w w'):Fr w w' [Mg v ts]:=by
 refine⟨hb,fun b=>v.ownBlock=F b,An.ks (e:=144) ⟨h.less (Nat.zero_le _),fun b hb=>hb⟩,fun b hb=>?_,trivial⟩;obtain⟨h1,cur,hc⟩:=h.row hb;exact⟨h1,(Gl hc)⟩
theorem GZ.scIn {w:Y} {S:Nat->Prop} {A:Option Addr} {c:Nat} {ks:List Sc} (h:GZ w S A ks):Om w (Z A ks.length c) ks:=
 ⟨A,c,rfl,fun k hk=>by
  obtain⟨b,o,e,_,hc⟩:=h k _ (List.getElem?_eq_getElem hk);have hg:ks.getD k AJ=ks[k]:=by rw[List.getD,List.getElem?_eq_getElem hk];rfl
  rw[hg];have h0:=hc 0 _ rfl;exact⟨b,o,e,HO h0,h0,hc 1 _ rfl,hc 2 _ rfl⟩⟩
end
section
set_option maxRecDepth 100000
theorem Cs.at {w:Y} {b o k:Nat} {v:Value} {vs:List Value} (h:Cs w b o vs) (hk:vs[k]? =F v):Cs w b (o+k*1) [v]:=fun j u hj=>by
 match j,hj with
 | 0,hj=>cases hj;rw[Nat.mul_one];exact h k v hk
def UQ (x:Bool) (bs:List Bool):Int:=match bs.findIdx? (·==x) with
 | some k=>k
 | none=> -1
theorem Aam {x:Bool} {bs:List Bool} {k:Nat} (h:bs[k]? =F x) (hne:∀ j,j<k->bs[j]? ≠F x):UQ x bs=k:=by
 have:bs.findIdx? (·==x)=F k:=by
  obtain⟨hlt,hk⟩:=List.getElem?_eq_some_iff.1 h;rw[List.findIdx?_eq_some_iff_getElem];refine⟨hlt,by simp[hk],fun j hj=>?_⟩;have:=hne j hj;rw[List.getElem?_eq_getElem (by omega)] at this;simpa using fun e=>this (by rw[e])
 unfold UQ;rw[this]
theorem YM {x:Bool} {bs:List Bool} (hne:∀ j,j<bs.length->bs[j]? ≠F x):UQ x bs= -1:=by
 have:bs.findIdx? (·==x)=O:=by
  rw[List.findIdx?_eq_none_iff];intro y hy;obtain⟨j,hj,rfl⟩:=List.getElem_of_mem hy;have:=hne j hj;rw[List.getElem?_eq_getElem hj] at this;simpa using fun e=>this (by rw[e])
 unfold UQ;rw[this]
theorem V6 (b o c:Nat) (bs:List Bool) (x:Bool) (w:Y) (h:Cs w b o (bs.map .bool)) (hn:bs.length<=1000):
  Calls Tryz.prog 214 #[Z (F ⟨b,o,O⟩) bs.length c,.bool x] w fun e w'=>e=.returned (I J (UQ x bs))/\Below w.heap.size w w':=by
 refine V.enter _ Tryz.func214 (Mem.start (C:=A5) w) ?_
 repeat refine W ?_
 refine V.loop (fun k=>k<=bs.length/\∀ j,j<k->bs[j]? ≠F x) (fun _=>Mem A5 w []) (fun k=>[(8,I J k),(7,I J bs.length),(0,Z (F ⟨b,o,O⟩) bs.length c),(1,.bool x)]) (bs.length - ·) 0 ⟨by omega,fun j hj=>by omega⟩ (fun w h=>h) ⟨rfl,rfl,rfl,rfl,trivial⟩ ?_;rintro k ⟨hk,hne⟩
 repeat refine W ?_
 refine V.ifp (fun hlt=>?_) (fun hge=>?_)
 ·have hlt:k<bs.length:=by omega
  obtain⟨y,hy⟩:∃ y,bs[k]? =F y:=⟨_,List.getElem?_eq_getElem hlt⟩
  have hc:=h.at (k:=k) (v:=.bool y) (by simp[hy])
  repeat refine W ?_
  refine R.ix hlt ?_;refine R.lo 0 hc ?_
  repeat refine W ?_
  refine V.if (fun he=>?_) (fun he=>?_)
  ·repeat refine W ?_
   refine V.end fun w' h'=>?_;exact⟨by rw[Aam (k:=k) (by rw[hy];simp at he;rw[he]) hne];rfl,h'.1.below⟩
  ·repeat refine W ?_
   have hne':∀ j,j<k+1->bs[j]? ≠F x:=fun j hj=>by
    by_cases e:j=k
    ·subst e;rw[hy];simp at he;simpa[eq_comm] using he
    ·exact hne j (by omega)
   exact V.again (k+1) rfl ⟨hlt,hne'⟩
 ·repeat refine W ?_
  refine V.end fun w' h'=>?_;exact⟨by rw[YM fun j hj=>hne j (by omega)];rfl,h'.1.below⟩
theorem OI (x:Bool) (bs:List Bool):bs.contains x=decide (0<=UQ x bs):=by
 unfold UQ;cases h:bs.findIdx? (·==x) with
 | none=>
  rw[List.findIdx?_eq_none_iff] at h;have:¬x∈bs:=fun hx=>by have:=h x hx;simp at this
  simp[this]
 | some k=>
  obtain⟨hlt,hk,_⟩:=List.findIdx?_eq_some_iff_getElem.1 h;have:x∈bs:=by simp at hk;rw[<- hk];exact List.getElem_mem hlt
  simp[this]
theorem Jc (b o c:Nat) (bs:List Bool) (x:Bool) (w:Y) (h:Cs w b o (bs.map .bool)) (hn:bs.length<=1000):
  Calls Tryz.prog 176 #[Z (F ⟨b,o,O⟩) bs.length c,.bool x] w fun e w'=>e=.returned (.bool (bs.contains x))/\Below w.heap.size w w':=by
 refine V.enter _ Tryz.func176 (Mem.start (C:=A5) w) ?_
 repeat refine W ?_
 refine R.c (fun w' h'=>V6 b o c bs x w' (h'.1.cs h fun e=>e) hn) ?_
 repeat refine W ?_
 refine V.end fun w' h'=>?_;refine⟨?_,h'.1.below⟩;rw[OI];rfl
def US (bs:List Bool):Bool:= !bs.contains false
theorem Ak6 (a b:Bool):US [a,b]=(a&&b):=by cases a<;>cases b<;>rfl
theorem Xk (a b c:Bool):US [a,b,c]=(a&&b&&c):=by cases a<;>cases b<;>cases c<;>rfl
theorem Ahi (a b c d:Bool):US [a,b,c,d]=(a&&b&&c&&d):=by cases a<;>cases b<;>cases c<;>cases d<;>rfl
theorem Jt (b o c:Nat) (bs:List Bool) (w:Y) (h:Cs w b o (bs.map .bool)) (hn:bs.length<=1000):
  Calls Tryz.prog 138 #[Z (F ⟨b,o,O⟩) bs.length c] w fun e w'=>e=.returned (.bool (US bs))/\Below w.heap.size w w':=by
 refine V.enter _ Tryz.func138 (Mem.start (C:=A5) w) ?_
 repeat refine W ?_
 refine R.c (fun w' h'=>Jc b o c bs false w' (h'.1.cs h fun e=>e) hn) ?_
 repeat refine W ?_
 refine V.end fun w' h'=>?_;exact⟨by simp[one,US],h'.1.below⟩
end
section
set_option maxRecDepth 100000
def QX {α:Type} (p:α->Bool) (l:List α):Int:=match l.findIdx? p with
 | some k=>k
 | none=> -1
theorem N6 {α:Type} {p:α->Bool} {l:List α} {k:Nat} {x:α} (h:l[k]? =F x) (hx:p x=true) (hne:∀ (j:Nat) (y:α),j<k->l[j]? =F y->p y=false):QX p l=k:=by
 have:l.findIdx? p=F k:=by
  obtain⟨hlt,hk⟩:=List.getElem?_eq_some_iff.1 h;rw[List.findIdx?_eq_some_iff_getElem];exact⟨hlt,by rw[hk];exact hx,fun j hj=>by rw[hne j _ hj (List.getElem?_eq_getElem (by omega))];decide⟩
 unfold QX;rw[this]
theorem Ly {α:Type} {p:α->Bool} {l:List α} (hne:∀ (j:Nat) (y:α),l[j]? =F y->p y=false):QX p l= -1:=by
 have:l.findIdx? p=O:=by
  rw[List.findIdx?_eq_none_iff];intro y hy;obtain⟨j,hj,rfl⟩:=List.getElem_of_mem hy;exact hne j _ (List.getElem?_eq_getElem hj)
 unfold QX;rw[this]
theorem Ny {α:Type} (p:α->Bool) (l:List α):decide (0<=QX p l)=l.any p:=by
 unfold QX;cases h:l.findIdx? p with
 | none=>
  rw[List.findIdx?_eq_none_iff] at h;have:l.any p=false:=by rw[List.any_eq_false];intro x hx;rw[h x hx];decide
  rw[this];rfl
 | some k=>
  obtain⟨hlt,hk,_⟩:=List.findIdx?_eq_some_iff_getElem.1 h;have:l.any p=true:=List.any_eq_true.2 ⟨_,List.getElem_mem hlt,hk⟩;rw[this];simp
def Bk (f:FuncId) (p:Sc->Bool) (x:Sc) (w:Y):Prop:=∀ W,Below w.heap.size w W->Calls Tryz.prog f #[Ev x] W fun e w'=>e=.returned (.bool (p x))/\Below W.heap.size W w'
theorem Bk.to {f:FuncId} {p:Sc->Bool} {x:Sc} {w w':Y} (h:Bk f p x w) (hb:Below w.heap.size w w'):Bk f p x w':=fun W hW=>h W (hb.trans (hW.mono hb.size))
theorem TQ (S:Nat->Prop) (A:Option Addr) (c:Nat) (ks:List Sc) (f:FuncId) (p:Sc->Bool) (w:Y) (h:GZ w S A ks) (hp:∀ x∈ks,Bk f p x w) (hn:ks.length<=1000000) (hf:∀ args w,(callFunc f args).run Tryz.prog w=.ok (.enter f args) w):
  Calls Tryz.prog 216 #[Z A ks.length c,.func (.func f) #[] #[]] w fun e w'=>e=.returned (I J (QX p ks))/\Below w.heap.size w w':=by
 refine V.enter _ Tryz.func216 (Mem.start (C:=A5) w) ?_
 repeat refine W ?_
 refine V.loop (fun k=>k<=ks.length/\∀ j y,j<k->ks[j]? =F y->p y=false) (fun _=>Mem A5 w []) (fun k=>[(8,I J k),(7,I J ks.length),(0,Z A ks.length c),(1,.func (.func f) #[] #[])]) (ks.length - ·) 0 ⟨by omega,fun j y hj=>by omega⟩ (fun w h=>h) ⟨rfl,rfl,rfl,rfl,trivial⟩ ?_;rintro k ⟨hk,hne⟩
 repeat refine W ?_
 refine V.ifp (fun hlt=>?_) (fun hge=>?_)
 ·have hlt:k<ks.length:=by omega
  obtain⟨x,hx⟩:∃ x,ks[k]? =F x:=⟨_,List.getElem?_eq_getElem hlt⟩
  obtain⟨b,o,rfl,_,hc⟩:=h k x hx
  repeat refine W ?_
  refine R.ix hlt ?_;refine R.lo 0 hc ?_;refine R.c (fun w' h'=>hp x (List.mem_of_getElem? hx) w' h'.1.below) ?_ (hr:=hf)
  repeat refine W ?_
  refine V.if (fun he=>?_) (fun he=>?_)
  ·repeat refine W ?_
   refine V.end fun w' h'=>?_;exact⟨by rw[N6 hx he hne];rfl,h'.1.below⟩
  ·repeat refine W ?_
   have hne':∀ j y,j<k+1->ks[j]? =F y->p y=false:=fun j y hj hy=>by
    by_cases e:j=k
    ·subst e;rw[hx] at hy;cases hy;exact he
    ·exact hne j y (by omega) hy
   exact V.again (k+1) rfl ⟨hlt,hne'⟩
 ·repeat refine W ?_
  refine V.end fun w' h'=>?_;exact⟨by rw[Ly fun j y hy=>hne j y (by have:=(List.getElem?_eq_some_iff.1 hy).1;omega) hy];rfl,h'.1.below⟩
theorem Ie (S:Nat->Prop) (A:Option Addr) (c:Nat) (ks:List Sc) (f:FuncId) (p:Sc->Bool) (w:Y) (h:GZ w S A ks) (hp:∀ x∈ks,Bk f p x w) (hn:ks.length<=1000000) (hf:∀ args w,(callFunc f args).run Tryz.prog w=.ok (.enter f args) w):
  Calls Tryz.prog 180 #[Z A ks.length c,.func (.func f) #[] #[]] w fun e w'=>e=.returned (.bool (ks.any p))/\Below w.heap.size w w':=by
 refine V.enter _ Tryz.func180 (Mem.start (C:=A5) w) ?_
 repeat refine W ?_
 refine R.c (fun w' h'=>TQ S A c ks f p w' (h.to fun b o v hb hv=>⟨h'.1.cell hv (fun e=>e),hb⟩) (fun x hx=>(hp x hx).to h'.1.below) hn hf) ?_
 repeat refine W ?_
 refine V.end fun w' h'=>?_;exact⟨by rw[<- Ny];rfl,h'.1.below⟩
theorem QV (rt:Sc->Bool) (x:Sc) (w:Y) (hR:Bk 139 rt x w):Bk 260 (fun x=> !rt x) x w:=by
 intro w1 hw1;refine V.enter _ Tryz.func260 (Mem.start (C:=A5) w1) ?_
 repeat (first | refine W ?_ | refine R.new fun _ _=>?_)
 refine R.c (fun w' h'=>hR w' (hw1.trans (h'.1.below.mono hw1.size))) ?_
 repeat refine W ?_
 refine V.end fun w' h'=>?_;exact⟨rfl,h'.1.below⟩
end
section
set_option maxRecDepth 100000
def NS (f:FuncId) (caps:List Value) (p:Int->Bool) (i:Int) (w:Y):Prop:=∀ w1,Below w.heap.size w w1->Calls Tryz.prog f (Value.int .i64 i::caps).toArray w1 fun e w'=>e=.returned (.bool (p i))/\Below w1.heap.size w1 w'
theorem NS.to {f:FuncId} {caps:List Value} {p:Int->Bool} {x:Int} {w w':Y} (h:NS f caps p x w) (hb:Below w.heap.size w w'):NS f caps p x w':=fun w1 hW=>h w1 (hb.trans (hW.mono hb.size))
theorem W7 (S:Nat->Prop) (A:Option Addr) (c:Nat) (is:List Int) (f:FuncId) (caps:List Value) (p:Int->Bool) (w:Y) (h:Ja w S A is) (hp:∀ x∈is,NS f caps p x w) (hn:is.length<=1000000) (hf:∀ args w,(callFunc f args).run Tryz.prog w=.ok (.enter f args) w):
  Calls Tryz.prog 215 #[Z A is.length c,.func (.func f) #[] caps.toArray] w fun e w'=>e=.returned (I J (QX p is))/\Below w.heap.size w w':=by
 refine V.enter _ Tryz.func215 (Mem.start (C:=A5) w) ?_
 repeat refine W ?_
 refine V.loop (fun k=>k<=is.length/\∀ (j:Nat) y,j<k->is[j]? =F y->p y=false) (fun _=>Mem A5 w []) (fun k=>[(8,I J k),(7,I J is.length),(0,Z A is.length c),(1,.func (.func f) #[] caps.toArray)]) (is.length - ·) 0 ⟨by omega,fun j y hj=>by omega⟩ (fun w h=>h) ⟨rfl,rfl,rfl,rfl,trivial⟩ ?_;rintro k ⟨hk,hne⟩
 repeat refine W ?_
 refine V.ifp (fun hlt=>?_) (fun hge=>?_)
 ·have hlt:k<is.length:=by omega
  obtain⟨x,hx⟩:∃ x,is[k]? =F x:=⟨_,List.getElem?_eq_getElem hlt⟩
  obtain⟨b,o,rfl,_,hc⟩:=h k x hx
  repeat refine W ?_
  refine R.ix hlt ?_;refine R.lo 0 hc ?_;refine R.c (fun w' h'=>hp x (List.mem_of_getElem? hx) w' h'.1.below) ?_ (hr:=hf)
  repeat refine W ?_
  refine V.if (fun he=>?_) (fun he=>?_)
  ·repeat refine W ?_
   refine V.end fun w' h'=>?_;exact⟨by rw[N6 hx he hne];rfl,h'.1.below⟩
  ·repeat refine W ?_
   have hne':∀ (j:Nat) y,j<k+1->is[j]? =F y->p y=false:=fun j y hj hy=>by
    by_cases e:j=k
    ·subst e;rw[hx] at hy;cases hy;exact he
    ·exact hne j y (by omega) hy
   exact V.again (k+1) rfl ⟨hlt,hne'⟩
 ·repeat refine W ?_
  refine V.end fun w' h'=>?_;exact⟨by rw[Ly fun j y hy=>hne j y (by have:=(List.getElem?_eq_some_iff.1 hy).1;omega) hy];rfl,h'.1.below⟩
theorem O4 (S:Nat->Prop) (A:Option Addr) (c:Nat) (is:List Int) (f:FuncId) (caps:List Value) (p:Int->Bool) (w:Y) (h:Ja w S A is) (hp:∀ x∈is,NS f caps p x w) (hn:is.length<=1000000) (hf:∀ args w,(callFunc f args).run Tryz.prog w=.ok (.enter f args) w):
  Calls Tryz.prog 178 #[Z A is.length c,.func (.func f) #[] caps.toArray] w fun e w'=>e=.returned (.bool (is.any p))/\Below w.heap.size w w':=by
 refine V.enter _ Tryz.func178 (Mem.start (C:=A5) w) ?_
 repeat refine W ?_
 refine R.c (fun w' h'=>W7 S A c is f caps p w' (h.to fun b o v hb hv=>⟨h'.1.cell hv (fun e=>e),hb⟩) (fun x hx=>(hp x hx).to h'.1.below) hn hf) ?_
 repeat refine W ?_
 refine V.end fun w' h'=>?_;exact⟨by rw[<- Ny];rfl,h'.1.below⟩
end
section
section
variable {P:Program} {n:Nat} {ds:List Deferred} {d:Bool} {ops:Array Oper} {K:Act->Y->Prop} {i:Nat} {pl pend pend':List Nat} {l:Env}
 {t:Nat} {ty:TypeId} {ps:String} {af:Array Edge} {gd:Option (Nat×Bool)} {C:Nat->Prop} {w0:Y} {A:List Aw}
theorem R.xe {ι:Type} {v:ι->Value} {A':ι->List Aw} {op:Op} {vs:List Value} (hv:∀ ρ w,GD ρ op.operands.toList vs->Mem C w0 A w->∃ x w',(execOp ρ ⟨F t,op,ty,ps,af,gd⟩).run P w=.ok (.value (v x)) w'/\Mem C w0 (A' x) w') (h:∀ x,Rj P n ds d ops K pl pend' (Mem C w0 (A' x)) ((t,v x)::l))
  (ho:AQ ops.toList i=F ⟨F t,op,ty,ps,af,gd⟩:=by rfl) (hg:D0 ops.toList l gd=F true:=by rfl) (hs:evs l op.operands.toList=F vs:=by rfl) (hq:quiet P op=false:=by first | rfl | kernel_rfl)
  (hp:Wq d ops i pend pend' (fun x=>Mem C w0 (A' x)) (Mem C w0 A):=by first | exact .inl ⟨rfl,rfl⟩ | exact .inr (.inl ⟨rfl,rfl⟩) | exact .inr (.inr ⟨rfl,fun _ _ h=>h⟩) | exact .inr (.inr ⟨rfl,fun _ _ h=>h.sub (List.sublist_cons_self ..)⟩)):Rj P n ds d ops K (i::pl) pend (Mem C w0 A) l:=
 R.eff (Si:=fun x=>Mem C w0 (A' x)) (li:=fun x=>(t,v x)::l) ho hg hq (fun a w K' ha hd hw hk=>by
  obtain⟨x,w',h1,h2⟩:=hv a.eval w (ha.evs _ _ hs).1 hw;unfold FI;rw[h1];exact hk x _ _ h2 (hd _)) hp h
theorem R.xp {v:Value} {op:Op} {vs:List Value} (hv:∀ ρ w,GD ρ op.operands.toList vs->Mem C w0 A w->(execOp ρ ⟨F t,op,ty,ps,af,gd⟩).run P w=.ok (.value v) w) (h:Rj P n ds d ops K pl pend (Mem C w0 A) ((t,v)::l))
  (ho:AQ ops.toList i=F ⟨F t,op,ty,ps,af,gd⟩:=by rfl) (hg:D0 ops.toList l gd=F true:=by rfl) (hs:evs l op.operands.toList=F vs:=by rfl) (hq:quiet P op=false:=by first | rfl | kernel_rfl):Rj P n ds d ops K (i::pl) pend (Mem C w0 A) l:=
 R.xe (ι:=Unit) (v:=fun _=>v) (A':=fun _=>A) (fun ρ w ha hm=>⟨(),w,hv ρ w ha hm,hm⟩) (fun _=>h) ho hg hs hq (.inr (.inr ⟨rfl,fun _ _ h=>h⟩))
theorem R.xn {op:Op} {v:Nat->Value} {vs cs:List Value} {bt:TypeId} (hv:∀ ρ w,GD ρ op.operands.toList vs->(execOp ρ ⟨F t,op,ty,ps,af,gd⟩).run P w=.ok (.value (v w.heap.size)) (w.alloc (.cells cs.toArray bt))) (h:∀ b,w0.heap.size<=b->Rj P n ds d ops K pl pend (Mem C w0 (blk b cs bt::A)) ((t,v b)::l))
  (ho:AQ ops.toList i=F ⟨F t,op,ty,ps,af,gd⟩:=by rfl) (hg:D0 ops.toList l gd=F true:=by rfl) (hs:evs l op.operands.toList=F vs:=by rfl) (hq:quiet P op=false:=by first | rfl | kernel_rfl):Rj P n ds d ops K (i::pl) pend (Mem C w0 A) l:=
 R.xe (ι:={b:Nat // w0.heap.size<=b}) (v:=fun b=>v b.1) (A':=fun b=>blk b.1 cs bt::A) (fun ρ w ha hm=>⟨⟨w.heap.size,hm.1.size⟩,_,hv ρ w ha,hm.alloc cs bt⟩) (fun x=>h x.1 x.2) ho hg hs hq (.inr (.inr ⟨rfl,fun _ _ h=>h.sub (List.sublist_cons_self ..)⟩))
theorem B4.less {C C':Nat->Prop} {w w':Y} (h:B4 C w w') (hc:∀ b,C b->C' b):B4 C' w w':=h.sub fun b _ hb=>hc b hb
theorem Ex.blk {ι:Type} {f:FuncId} {aq:Array Value} {w:Y} {b:Nat} {cs:List Value} {bt:TypeId} {v:ι->Value} {cs':ι->List Value} (h:w.heap[b]? =F (.cells cs.toArray bt)->Calls P f aq w fun e w'=>∃ x,e=.returned (v x)/\B4 (fun k=>k=b) w w'/\w'.heap[b]? =F (.cells (cs' x).toArray bt)):
  Ex P f aq w (Go.Proofs.YtdpppepmkeinaaaGreatDoor.blk b cs bt) v (fun x=>Go.Proofs.YtdpppepmkeinaaaGreatDoor.blk b (cs' x) bt):=fun Fz hX hF=>
 (h hX.2).mono fun e w' ⟨x,he,hx,hb⟩=>⟨x,he,Fz,hx.less (fun k e=>by subst e;exact hX.1),fun k hk=>⟨Nat.lt_of_lt_of_le (hF k hk) hx.size,.inl hk⟩,hX.1,hb⟩
end
end
end Go.Proofs.YtdpppepmkeinaaaGreatDoor
