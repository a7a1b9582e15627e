/- What is proved: a part of the walk of the program and of its plain laws; no condition beside those that each theorem names. -/
import Derived.Test.YtdpppepmkeinaaaGreatDoorYy
import Derived.Test.YtdpppepmkeinaaaGreatDoorYm
import Derived.Test.YtdpppepmkeinaaaGreatDoorYc
import Derived.Test.YtdpppepmkeinaaaGreatDoorYa
import Derived.Deep.CutRange
namespace Go.Proofs.YtdpppepmkeinaaaGreatDoor
open Go Go.RowKit Go.Lib
open Go.Value renaming int->I,string->Q,slice->Z
open Go.IntKind renaming i64->J
open Option renaming none->O,some->F
open _root_.Go renaming World->Y
set_option linter.unusedSimpArgs false
set_option linter.unusedVariables false
set_option linter.unusedSectionVars false
section
section
variable {P:Program} {n:Nat} {ds:List Deferred} {d:Bool} {ops:Array Oper} {K:Act->Y->Prop} {i:Nat} {T pl pend:List Nat} {l:Env}
 {t:Nat} {ty:TypeId} {ps:String} {af:Array Edge} {gd:Option (Nat×Bool)} {C:Nat->Prop} {w0:Y} {A A' Az:List Aw}
theorem Zz.sta {x y:Operand} {tt bt:TypeId} {b o:Nat} {v:Value} {cs cs':List Value} (ho:AQ ops.toList i=F ⟨O,.store tt x y,ty,ps,af,gd⟩:=by rfl) (hx:ev l x=F (.pointer (F ⟨b,o,O⟩)):=by rfl) (hy:ev l y=F v:=by rfl) (hr:E5 (blk b cs bt) (blk b cs' bt) A A':=by(repeat (first | exact E5.hd | apply E5.tl));first | done | fail) (hv:Bo cs o v.cells.toList=F cs':=by rfl) (ho1:v.cells.toList.all Value.oneCell'=true:=by rfl) (hs:∀ w,(sizeOf tt).run P w=.ok v.cells.size w:=by intro w;simp;(try rfl);first | done | fail) (hz:∀ w,Mem C w0 A' w->Mem C w0 Az w:=by exact fun w h=>h.sel) (hg:D0 ops.toList l gd=F true:=by rfl):
  (Rz P n ds d ops K T pl pend (Mem C w0 Az) (Mem C w0 A') l)->Rz P n ds d ops K T (i::pl) pend (Mem C w0 Az) (Mem C w0 A) l:=fun h=>Zz.st h ho hx hy hr hv ho1 hs hz hg
theorem Zz.c {v:Value} {f:FuncId} {fn:Operand} {fs cs:Array Value} {args:List Operand} {ts:Array TypeId} {vs aa:List Value}
  (hc:∀ w,Mem C w0 A w->Calls P f aa.toArray w fun e w'=>e=.returned v/\Below w.heap.size w w') (h:Rz P n ds d ops K T pl pend (Mem C w0 Az) (Mem C w0 A) ((t,v)::l)) (hz:∀ w,Mem C w0 A w->Mem C w0 Az w:=by exact fun w h=>h.sel)
  (ho:AQ ops.toList i=F ⟨F t,.call {callee:=.value fn,args:=args.toArray,argTypes:=ts},ty,ps,af,gd⟩:=by rfl) (hf:ev l fn=F (.func (.func f) fs cs):=by rfl) (hs:evs l args=F vs:=by rfl) (he:fs.toList++(vs++cs.toList)=aa:=by rfl) (hr:∀ args w,(callFunc f args).run P w=.ok (.enter f args) w:=by intro args w;simp;first | done | fail)
  (hg:D0 ops.toList l gd=F true:=by rfl):Rz P n ds d ops K T (i::pl) pend (Mem C w0 Az) (Mem C w0 A) l:=
 Zz.eff (ι:=Unit) (Si:=fun _=>Mem C w0 A) (li:=fun _=>(t,v)::l) ho hg rfl (fun a w K' ha hd hw hk=>by
  unfold FI;rw[FQ ha hf hs hr he];exact(hc w hw).mono (by rintro e w' ⟨rfl,hb⟩;exact⟨_,rfl,hk () _ _ (hw.below hb) (hd _)⟩)) (fun _ w h=>hz w h) (fun _=>h)
end
section
variable {P:Program} {n:Nat} {ds:List Deferred} {ops:Array Oper} {K:Act->Y->Prop} {T T1 T2 pend:List Nat} {l:Env} {C:Nat->Prop} {w0:Y} {A Az:List Aw}
theorem Zz.ncc (i j:Nat) {s t:Nat} {op:Op} {ty ty2:TypeId} {ps ps2:String} {af af2:Array Edge} {cs:List Value} {bt:TypeId} {v:Value} {f:FuncId} {fn:Operand} {fs cc:Array Value} {args:List Operand} {ts:Array TypeId} {vs aa:List Value}
  (hc:∀ w,Mem C w0 A w->Calls P f aa.toArray w fun e w'=>e=.returned v/\Below w.heap.size w w') (hv:∀ ρ w,(execOp ρ ⟨F s,op,ty,ps,af,O⟩).run P w=.ok (.value (.pointer (F ⟨w.heap.size,0,O⟩))) (w.alloc (.cells cs.toArray bt)))
  (h1:∀ b,w0.heap.size<=b->Rz P n ds true ops K [] T1 pend (Mem C w0 Az) (Mem C w0 (blk b cs bt::A)) ((s,.pointer (F ⟨b,0,O⟩))::l))
  (h2:Rz P n ds true ops K [] T2 pend (Mem C w0 Az) (Mem C w0 A) ((t,v)::l)) (hz:∀ w,Mem C w0 A w->Mem C w0 Az w:=by exact fun w h=>h.sel)
  (hi:AQ ops.toList i=F ⟨F s,op,ty,ps,af,O⟩:=by rfl) (hj:AQ ops.toList j=F ⟨F t,.call {callee:=.value fn,args:=args.toArray,argTypes:=ts},ty2,ps2,af2,O⟩:=by rfl)
  (hf:ev l fn=F (.func (.func f) fs cc):=by rfl) (hes:evs l args=F vs:=by rfl) (he:fs.toList++(vs++cc.toList)=aa:=by rfl) (hr:∀ args w,(callFunc f args).run P w=.ok (.enter f args) w:=by intro args w;simp;first | done | fail)
  (hck:MT P ops n i j T T1 T2 [] []=true:=by kernel_rfl):Rz P n ds true ops K T [] pend (Mem C w0 Az) (Mem C w0 A) l:=
 Zz.fork (α:={b:Nat // w0.heap.size<=b}) (β:=Unit) (S1:=fun b=>Mem C w0 (blk b.1 cs bt::A)) (l1:=fun b=>(s,.pointer (F ⟨b.1,0,O⟩))::l) (S2:=fun x=>Mem C w0 A) (l2:=fun x=>(t,v)::l) hi hj rfl rfl hck
  (fun a w K' ha hd hw hk=>by
   unfold FI;rw[hv a.eval w];exact hk ⟨w.heap.size,hw.1.size⟩ _ _ (hw.alloc cs bt) (hd _))
  (fun a w K' ha hd hw hk=>by
   unfold FI;rw[FQ ha hf hes hr he];exact(hc w hw).mono (by rintro e w' ⟨rfl,hb⟩;exact⟨_,rfl,hk () _ _ (hw.below hb) (hd _)⟩))
  (fun x w h=>hz w (h.sub (List.sublist_cons_self ..))) (fun x w h=>hz w h) (fun x=>h1 x.1 x.2) (fun _=>h2)
end
theorem Wy {Jz J':Prop} (k:J') (h:J'->Jz:=by first | exact Zz.add | exact Zz.sub | exact Zz.p | exact Zz.lb | exact Zz.u | exact Zz.sta):Jz:=h k
end
section
set_option maxRecDepth 100000
set_option maxHeartbeats 400000
theorem Lk {α:Type} [BEq α] {a:α}:∀ {l:List (α×Value)} {v:Value},B5 a l=F v->∃ p∈l,p.2=v
 | [],_,h=>by simp[B5] at h
 | p::l,v,h=>by
  unfold B5 at h;split at h
  ·exact⟨p,by simp,by injection h⟩
  ·obtain⟨q,hq,e⟩:=Lk h;exact⟨q,by simp[hq],e⟩
theorem Rf (s:ByteArray):Ahc (DD s):=by
 unfold DD;split
 ·rename_i v h;obtain⟨p,hp,rfl⟩:=Lk h;simp only[EI,List.mem_cons,List.not_mem_nil,or_false] at hp;rcases hp with rfl | rfl | rfl | rfl | rfl | rfl | rfl | rfl | rfl
  ·exact .inl rfl
  ·exact .inl rfl
  ·exact .inl rfl
  ·exact .inr (.inr (.inl ⟨true,rfl⟩))
  ·exact .inr (.inr (.inl ⟨false,rfl⟩))
  ·exact .inr (.inl rfl)
  ·exact .inr (.inl rfl)
  ·exact .inr (.inl rfl)
  ·exact .inr (.inl rfl)
 ·split
  ·unfold Io;split
   ·split
    ·exact .inr (.inr (.inr (.inl ⟨_,rfl⟩)))
    ·exact .inr (.inl rfl)
   ·exact .inr (.inl rfl)
  ·exact .inr (.inr (.inr (.inr ⟨_,rfl⟩)))
def Ay (s:ByteArray):Sc×Int:=if !s.data.toList.isEmpty&& !Cm s.data.toList false then (AJ,51) else Gv (DD s)
theorem LP (s:ByteArray) (w:Y) (hs:s.size<=1000000) (hT:BU w):
  Calls Tryz.prog 42 #[Q s] w fun e w'=>e=.returned (.tuple #[Ev (Ay s).1,I J (Ay s).2])/\Below w.heap.size w w':=by
 have tail:∀ w1:Y,Below w.heap.size w w1->BU w1->(s.data.toList.isEmpty=true\/Cm s.data.toList false=true)->Ay s=Gv (DD s):=fun _ _ _ h=>by
  unfold Ay;rcases h with h | h<;>simp[h]
 have TAIL:=hid tail;clear tail;obtain⟨⟨⟨k,n,t⟩,er⟩,hx⟩:∃ p,Gv (DD s)=p:=⟨_,rfl⟩
 have HX:=hid hx;clear hx;have hv:=Rf s;by_cases h0:0<s.size
 ·have he:=AY h0;have hne:s.data.toList.isEmpty=false:=by rw[<- Lib.toList_data];exact he
  have HE:=hid hne;clear hne;go_enter Tryz.func42,Tryz.ntmps42;go_wp2_with fail;refine(QH s false _ hs (hT.below ((Bq _ w).alloc Nr _))).mono ?_;rintro e w1 ⟨rfl,hb1⟩;have hbw:Below w.heap.size w w1:=((Bq _ w).alloc Nr _).trans (hb1.mono (by simp));have hT1:=hT.below hbw;have hk:=Eq _ _ hb1;cases hm:Cm s.data.toList false with
  | false=>
   obtain⟨c0,c1,c2,f0,f1,f2⟩:=EM hk;have HM:=hid hm;clear hm hk;go_wp2;refine bodyPost_ret (v:=.tuple #[.agg #[I J 0,I J 0,Q ⟨#[]⟩],I J 51]) (by simp[results,Tryz.results42,go_sem,c0,c1,c2]) rfl ⟨?_,?_⟩
   ·rw[show Ay s=(AJ,51) from(by unfold Ay;rw[HE.out,HM.out];rfl)];rfl
   ·repeat (first | exact hbw | refine Below.setCell ?_ (by simp) _)
  | true=>
   have HR:=hid (TAIL.out w1 hbw hT1 (.inr hm));clear hm;go_wp2_with fail;refine(Pv s _ hs hT1).mono ?_;rintro e w2 ⟨rfl,hb2⟩;go_wp2_with fail;refine(MJ _ _ hv).mono ?_;rw[HX.out];unfold Ev;rintro e w3 ⟨rfl,hb3⟩;have hk3:=AW (AW hk hb2) hb3;have hb03:Below w.heap.size w w3:=(hbw.trans (hb2.mono hbw.size)).trans (hb3.mono (Nat.le_trans hbw.size hb2.size));obtain⟨c0,c1,c2,f0,f1,f2⟩:=EM hk3;clear hk hk3;go_wp2;refine bodyPost_ret (v:=.tuple #[.agg #[I J k,I J n,Q t],I J er]) (by simp[results,Tryz.results42,go_sem,c0,c1,c2]) rfl ⟨?_,?_⟩
   ·rw[HR.out,HX.out];rfl
   ·repeat (first | exact hb03 | refine Below.setCell ?_ (by simp) _)
 ·have he:=Bn h0;have hne:s.data.toList.isEmpty=true:=by rw[<- Lib.toList_data];exact he
  have hT1:=hT.below ((Bq _ w).alloc Nr (.cells #[I J 0,I J 0,Q ⟨#[]⟩] 36));have HR:=hid (TAIL.out _ ((Bq _ w).alloc Nr _) hT1 (.inl hne));clear hne;go_enter Tryz.func42,Tryz.ntmps42;go_wp2_with fail;refine(Pv s _ hs hT1).mono ?_;rintro e w2 ⟨rfl,hb2⟩;go_wp2_with fail;refine(MJ _ _ hv).mono ?_;rw[HX.out];unfold Ev;rintro e w3 ⟨rfl,hb3⟩;have hk3:=AW (Eq _ _ hb2) hb3;have hb03:Below w.heap.size w w3:=(((Bq _ w).alloc Nr _).trans (hb2.mono (by simp))).trans (hb3.mono (by have:=hb2.size;simp at this;omega));obtain⟨c0,c1,c2,f0,f1,f2⟩:=EM hk3;clear hk3;go_wp2;refine bodyPost_ret (v:=.tuple #[.agg #[I J k,I J n,Q t],I J er]) (by simp[results,Tryz.results42,go_sem,c0,c1,c2]) rfl ⟨?_,?_⟩
  ·rw[HR.out,HX.out];rfl
  ·repeat (first | exact hb03 | refine Below.setCell ?_ (by simp) _)
def A4 (x:Sc):Bool:=
 if x.kind=0 then (x.num==0)&&x.str.data.toList.isEmpty
 else if x.kind=1 then x.str.data.toList.isEmpty&&(x.num==0||x.num==1)
 else if x.kind=2 then x.str.data.toList.isEmpty&&(decide (-999999999999999<=x.num)&&decide (x.num<=999999999999999))
 else if x.kind=3 then (x.num==0)&&validD x.str.data.toList
 else false
theorem Ij (k n:Int) (s:ByteArray) (w:Y) (hs:s.size<=1000000) (hT:BU w):
  Calls Tryz.prog 139 #[.agg #[I J k,I J n,Q s]] w fun e w'=>e=.returned (.bool (A4 ⟨k,n,s⟩))/\Below w.heap.size w w':=by
 have hb0:Below w.heap.size w (w.alloc (.cells #[I J k,I J n,Q s] 36)):=(Bq _ w).alloc Nr _;by_cases k0:k=0
 ·subst k0;cases hn:(n==0) with
  | false=>
   go_enter Tryz.func139,Tryz.ntmps139;go_wp2;go_ret;exact⟨by rw[show A4 ⟨0,n,s⟩=false from(by unfold A4;simp[hn])];rfl,hb0⟩
  | true=>
   have hn0:n=0:=by simpa using hn
   subst hn0;by_cases he:0<s.size
   ·have he':=AY he;have HE:Hid (s.data.toList.isEmpty=false):=hid (by rw[<- Lib.toList_data];exact he');go_enter Tryz.func139,Tryz.ntmps139;go_wp2;go_ret;exact⟨by rw[show A4 ⟨0,0,s⟩=false from(by unfold A4;simp[HE.out])];rfl,hb0⟩
   ·have he':=Bn he;have HE:Hid (s.data.toList.isEmpty=true):=hid (by rw[<- Lib.toList_data];exact he');go_enter Tryz.func139,Tryz.ntmps139;go_wp2;go_ret;exact⟨by rw[show A4 ⟨0,0,s⟩=true from(by unfold A4;simp[HE.out])];rfl,hb0⟩
 by_cases k1:k=1
 ·subst k1;by_cases he:0<s.size
  ·have he':=AY he;have HE:Hid (s.data.toList.isEmpty=false):=hid (by rw[<- Lib.toList_data];exact he');go_enter Tryz.func139,Tryz.ntmps139;go_wp2;go_ret;exact⟨by rw[show A4 ⟨1,n,s⟩=false from(by unfold A4;simp[HE.out])];rfl,hb0⟩
  ·have he':=Bn he;have HE:Hid (s.data.toList.isEmpty=true):=hid (by rw[<- Lib.toList_data];exact he');cases hn:(n==0) with
   | true=>
    go_enter Tryz.func139,Tryz.ntmps139;go_wp2;go_ret;exact⟨by rw[show A4 ⟨1,n,s⟩=true from(by unfold A4;simp[HE.out,hn])];rfl,hb0⟩
   | false=>
    go_enter Tryz.func139,Tryz.ntmps139;go_wp2;go_ret;exact⟨by rw[show A4 ⟨1,n,s⟩=(n==1) from(by unfold A4;simp[HE.out,hn])];rfl,hb0⟩
 by_cases k2:k=2
 ·subst k2;by_cases he:0<s.size
  ·have he':=AY he;have HE:Hid (s.data.toList.isEmpty=false):=hid (by rw[<- Lib.toList_data];exact he');go_enter Tryz.func139,Tryz.ntmps139;go_wp2;go_ret;exact⟨by rw[show A4 ⟨2,n,s⟩=false from(by unfold A4;simp[HE.out])];rfl,hb0⟩
  ·have he':=Bn he;have HE:Hid (s.data.toList.isEmpty=true):=hid (by rw[<- Lib.toList_data];exact he');by_cases hn: -999999999999999<=n
   ·go_enter Tryz.func139,Tryz.ntmps139;go_wp2;go_ret;exact⟨by rw[show A4 ⟨2,n,s⟩=decide (n<=999999999999999) from(by unfold A4;simp[HE.out,hn])];rfl,hb0⟩
   ·go_enter Tryz.func139,Tryz.ntmps139;go_wp2;go_ret;exact⟨by rw[show A4 ⟨2,n,s⟩=false from(by unfold A4;simp[HE.out];omega)];rfl,hb0⟩
 by_cases k3:k=3
 ·subst k3;cases hn:(n==0) with
  | false=>
   go_enter Tryz.func139,Tryz.ntmps139;go_wp2;go_ret;exact⟨by rw[show A4 ⟨3,n,s⟩=false from(by unfold A4;simp[hn])];rfl,hb0⟩
  | true=>
   have HN:=hid hn;go_enter Tryz.func139,Tryz.ntmps139;go_wp2_with fail;refine(Cz s _ hs (hT.below hb0)).mono ?_;rintro e w1 ⟨rfl,hb1⟩;go_wp2;go_ret;exact⟨by rw[show A4 ⟨3,n,s⟩=validD s.data.toList from(by unfold A4;simp[HN.out])];rfl,hb0.trans (hb1.mono (by simp))⟩
 have e0:(k==0)=false:=by simpa using k0
 have e1:(k==1)=false:=by simpa using k1
 have e2:(k==2)=false:=by simpa using k2
 have e3:(k==3)=false:=by simpa using k3
 go_enter Tryz.func139,Tryz.ntmps139;go_wp2;go_ret;exact⟨by rw[show A4 ⟨k,n,s⟩=false from(by unfold A4;simp[k0,k1,k2,k3])];rfl,hb0⟩
end
section
structure Pc where
 kind:Int
 str:List UInt8
def Tr.named:Tr->List UInt8->Tr
 | .mk k _ x ks ts,s=>.mk k ⟨s.toArray⟩ x ks ts
def Tr.kind:Tr->Int
 | .mk k _ _ _ _=>k
def Tr.kids:Tr->List Tr
 | .mk _ _ _ _ ts=>ts
def Ei:Tr:=.mk 0 ⟨#[]⟩ AJ [] []
def BX (x:Sc):Tr:=.mk 0 ⟨#[]⟩ x [] []
def Fd (s:List UInt8):Tr:=.mk 3 ⟨s.toArray⟩ AJ [] []
def Bt (ts:List Tr):Tr:=.mk 1 ⟨#[]⟩ AJ [] ts
def BT (ks:List Sc) (ts:List Tr):Tr:=.mk 2 ⟨#[]⟩ AJ ks ts
def Ad:Tr->Nat
 | .mk _ _ _ _ ts=>deepTs ts+1
where deepTs:List Tr->Nat
 | []=>0
 | t::r=>max (Ad t) (deepTs r)
theorem CL (t:Tr):1<=Ad t:=by cases t;unfold Ad;omega
theorem D2 (t:Tr) (s:List UInt8):Ad (t.named s)=Ad t:=by cases t;unfold Tr.named Ad;rfl
theorem DJ (ts:List Tr):Ad (Bt ts)=Ad.deepTs ts+1:=by unfold Bt Ad;rfl
theorem Gg (ks:List Sc) (ts:List Tr):Ad (BT ks ts)=Ad.deepTs ts+1:=by unfold BT Ad;rfl
theorem CN (x:Sc):Ad (BX x)=1:=by unfold BX Ad;rfl
theorem GW (s:List UInt8):Ad (Fd s)=1:=by unfold Fd Ad;rfl
theorem Fb:Ad Ei=1:=by unfold Ei Ad;rfl
def B3 (t:Pc):Sc×Int:=
 if t.kind=1 then (if (Ay ⟨t.str.toArray⟩).2=0 then Ay ⟨t.str.toArray⟩ else (AJ,(Ay ⟨t.str.toArray⟩).2))
 else if t.kind=2 then (if validD t.str then (⟨3,0,⟨t.str.toArray⟩⟩,0) else (AJ,40)) else (AJ,91)
def hk:List Pc->Int
 | []=>0
 | t::_=>t.kind
theorem D6 {l c:List Pc} (h:l≠[]):hk (l++c)=hk l:=by
 cases l with
 | nil=>exact absurd rfl h
 | cons t r=>rfl
inductive FR where
 | ok (t:Tr) (rest:List Pc)
 | bad (e:Int)
mutual
def AB:Nat->Nat->List Pc->FR
 | 0,_,_=>.bad 91
 | n+1,d,l=>if 24<d then .bad 73 else
  match l with
  | []=>.bad 91
  | t::r=>
   if t.kind=3 then (if hk r=3\/hk r=4 then .bad 91 else match AB n d r with
    | .ok v rest=>.ok (v.named t.str) rest
    | .bad e=>.bad e)
   else if t.kind=4 then .ok (Fd t.str) r
   else if t.kind=8 then B9 n d r []
   else if t.kind=10 then AP n d r [] []
   else if (B3 t).2=0 then .ok (BX (B3 t).1) r else .bad (B3 t).2
def B9:Nat->Nat->List Pc->List Tr->FR
 | 0,_,_,_=>.bad 91
 | n+1,d,l,acc=>if hk l=9 then .ok (Bt acc) l.tail else
  match AB n (d+1) l with
  | .bad e=>.bad e
  | .ok v rest=>if hk rest=7 then B9 n d rest.tail (acc++[v]) else if hk rest=9 then .ok (Bt (acc++[v])) rest.tail else .bad 91
def AP:Nat->Nat->List Pc->List Sc->List Tr->FR
 | 0,_,_,_,_=>.bad 91
 | n+1,d,l,ks,ts=>if hk l=11 then .ok (BT ks ts) l.tail else
  match l with
  | []=>.bad 91
  | t::r=>
   if (B3 t).2≠0 then .bad (B3 t).2 else if hk r≠6 then .bad 91 else if 24<d+1 then .bad 73 else
   if hk r.tail=7 then AP n d r.tail.tail (ks++[(B3 t).1]) (ts++[Ei]) else if hk r.tail=11 then .ok (BT (ks++[(B3 t).1]) (ts++[Ei])) r.tail.tail else
   match AB n (d+1) r.tail with
   | .bad e=>.bad e
   | .ok v rest=>if hk rest=7 then AP n d rest.tail (ks++[(B3 t).1]) (ts++[v]) else if hk rest=11 then .ok (BT (ks++[(B3 t).1]) (ts++[v])) rest.tail else .bad 91
end
mutual
inductive PV:List Pc->Tr->Prop
 | key (t:Pc) (h:(B3 t).2=0):PV [t] (BX (B3 t).1)
 | ali (t:Pc) (h:t.kind=4):PV [t] (Fd t.str)
 | nam (t:Pc) (p:List Pc) (v:Tr) (h:t.kind=3) (h2:hk p≠3) (h3:hk p≠4) (hp:PV p v):PV (t::p) (v.named t.str)
 | lst (t:Pc) (p:List Pc) (ts:List Tr) (h:t.kind=8) (hp:PI p ts):PV (t::p) (Bt ts)
 | dic (t:Pc) (p:List Pc) (ks:List Sc) (ts:List Tr) (h:t.kind=10) (hp:PD p ks ts):PV (t::p) (BT ks ts)
inductive PI:List Pc->List Tr->Prop
 | nil (c:Pc) (h:c.kind=9):PI [c] []
 | last (p:List Pc) (v:Tr) (c:Pc) (hp:PV p v) (h:c.kind=9):PI (p++[c]) [v]
 | cons (p:List Pc) (v:Tr) (m:Pc) (q:List Pc) (ts:List Tr) (hp:PV p v) (h:m.kind=7) (hq:PI q ts):PI (p++m::q) (v::ts)
inductive PD:List Pc->List Sc->List Tr->Prop
 | nil (c:Pc) (h:c.kind=11):PD [c] [] []
 | last (p:List Pc) (x:Sc) (v:Tr) (c:Pc) (hp:PP p x v) (h:c.kind=11):PD (p++[c]) [x] [v]
 | cons (p:List Pc) (x:Sc) (v:Tr) (m:Pc) (q:List Pc) (ks:List Sc) (ts:List Tr) (hp:PP p x v) (h:m.kind=7) (hq:PD q ks ts):PD (p++m::q) (x::ks) (v::ts)
inductive PP:List Pc->Sc->Tr->Prop
 | none (k c:Pc) (h:(B3 k).2=0) (hc:c.kind=6):PP [k,c] (B3 k).1 Ei
 | some (k c:Pc) (p:List Pc) (v:Tr) (h:(B3 k).2=0) (hc:c.kind=6) (hp:PV p v):PP (k::c::p) (B3 k).1 v
end
theorem CF {t:Pc} (h:(B3 t).2=0):t.kind=1\/t.kind=2:=by
 unfold B3 at h;by_cases h1:t.kind=1
 ·exact .inl h1
 ·rw[if_neg h1] at h;by_cases h2:t.kind=2
  ·exact .inr h2
  ·rw[if_neg h2] at h;cases h
theorem Bm {p:List Pc} {v:Tr} (h:PV p v):p≠[]/\(hk p=1\/hk p=2\/hk p=4\/hk p=3\/hk p=8\/hk p=10):=by
 cases h with
 | key t h=>exact⟨by simp,by rcases CF h with k | k<;>simp[hk,k]⟩
 | ali t h=>exact⟨by simp,by simp[hk,h]⟩
 | nam t p v h _ _ _=>exact⟨by simp,by simp[hk,h]⟩
 | lst t p ts h _=>exact⟨by simp,by simp[hk,h]⟩
 | dic t p ks ts h _=>exact⟨by simp,by simp[hk,h]⟩
theorem N1 {p:List Pc} {ts:List Tr} (h:PI p ts):p≠[]:=by cases h<;>simp
theorem NY {p:List Pc} {ks:List Sc} {ts:List Tr} (h:PD p ks ts):p≠[]:=by cases h<;>simp
theorem Abd {p:List Pc} {x:Sc} {v:Tr} (h:PP p x v):p≠[]:=by cases h<;>simp
def SV (n:Nat):Prop:=∀ d l t rest,AB n d l=.ok t rest->∃ p,l=p++rest/\PV p t/\d+Ad t<=25
def SI (n:Nat):Prop:=∀ d l acc t rest,B9 n d l acc=.ok t rest->∃ p ts,l=p++rest/\PI p ts/\t=Bt (acc++ts)/\(ts≠[]->d+1+Ad.deepTs ts<=25)
def SD (n:Nat):Prop:=∀ d l ks0 ts0 t rest,AP n d l ks0 ts0=.ok t rest->∃ p ks ts,l=p++rest/\PD p ks ts/\t=BT (ks0++ks) (ts0++ts)/\(ts≠[]->d+1+Ad.deepTs ts<=25)
theorem DC {l:List Pc} {k:Int} (h:hk l=k) (hk0:k≠0):∃ c,c.kind=k/\l=c::l.tail:=by
 cases l with
 | nil=>exact absurd h.symm hk0
 | cons c r=>exact⟨c,h,rfl⟩
theorem sound:∀ n,SV n/\SI n/\SD n
 | 0=>⟨fun d l t rest h=>by simp[AB] at h,fun d l acc t rest h=>by simp[B9] at h,fun d l ks ts t rest h=>by simp[AP] at h⟩
 | n+1=>by
  obtain⟨hV,hI,hD⟩:=sound n;refine⟨fun d l t rest h=>?_,fun d l acc t rest h=>?_,fun d l ks0 ts0 t rest h=>?_⟩
  ·unfold AB at h;split at h
   ·cases h
   ·rename_i hd;cases l with
    | nil=>cases h
    | cons a r=>
     simp only at h;split at h
     ·rename_i h3;split at h
      ·cases h
      ·rename_i hn;cases hv:AB n d r with
       | bad e=>rw[hv] at h;cases h
       | ok v rest'=>
        rw[hv] at h;injection h with h1 h2;subst h1 h2;obtain⟨p,hp,hpv,hdp⟩:=hV _ _ _ _ hv;have hne:=(Bm hpv).1;rw[hp,D6 hne] at hn;exact⟨a::p,by rw[hp];rfl,.nam a p v h3 (fun k=>hn (.inl k)) (fun k=>hn (.inr k)) hpv,by rw[D2];exact hdp⟩
     ·split at h
      ·rename_i h4;injection h with h1 h2;subst h1 h2;exact⟨[a],rfl,.ali a h4,by rw[GW];omega⟩
      ·split at h
       ·rename_i h8;obtain⟨p,ts,hp,hpi,ht,hdp⟩:=hI _ _ _ _ _ h;subst ht;refine⟨a::p,by rw[hp];rfl,.lst a p ts h8 hpi,?_⟩;rw[List.nil_append,DJ];by_cases hts:ts=[]
        ·subst hts;unfold Ad.deepTs;omega
        ·have:=hdp hts;omega
       ·split at h
        ·rename_i h10;obtain⟨p,ks,ts,hp,hpi,ht,hdp⟩:=hD _ _ _ _ _ _ h;subst ht;refine⟨a::p,by rw[hp];rfl,.dic a p ks ts h10 hpi,?_⟩;rw[List.nil_append,List.nil_append,Gg];by_cases hts:ts=[]
         ·subst hts;unfold Ad.deepTs;omega
         ·have:=hdp hts;omega
        ·split at h
         ·rename_i hk;injection h with h1 h2;subst h1 h2;exact⟨[a],rfl,.key a hk,by rw[CN];omega⟩
         ·cases h
  ·unfold B9 at h;split at h
   ·rename_i h9;injection h with h1 h2;subst h1 h2;obtain⟨c,hc,hl⟩:=DC h9 (by decide);exact⟨[c],[],by rw[hl];rfl,.nil c hc,by rw[List.append_nil],fun k=>absurd rfl k⟩
   ·cases hv:AB n (d+1) l with
    | bad e=>rw[hv] at h;cases h
    | ok v rest'=>
     rw[hv] at h;simp only at h;obtain⟨p,hp,hpv,hdp⟩:=hV _ _ _ _ hv;split at h
     ·rename_i h7;obtain⟨m,hm,hr⟩:=DC h7 (by decide);obtain⟨q,ts,hq,hqi,ht,hdq⟩:=hI _ _ _ _ _ h;refine⟨p++m::q,v::ts,by rw[hp,hr,hq];simp,.cons p v m q ts hpv hm hqi,by rw[ht,List.append_assoc];rfl,fun _=>?_⟩;unfold Ad.deepTs;by_cases hts:ts=[]
      ·subst hts;unfold Ad.deepTs;omega
      ·have:=hdq hts;omega
     ·split at h
      ·rename_i h9;obtain⟨c,hc,hr⟩:=DC h9 (by decide);injection h with h1 h2;subst h1 h2;refine⟨p++[c],[v],by rw[hp,hr];simp,.last p v c hpv hc,rfl,fun _=>?_⟩;unfold Ad.deepTs Ad.deepTs;omega
      ·cases h
  ·unfold AP at h;split at h
   ·rename_i h11;injection h with h1 h2;subst h1 h2;obtain⟨c,hc,hl⟩:=DC h11 (by decide);exact⟨[c],[],[],by rw[hl];rfl,.nil c hc,by rw[List.append_nil,List.append_nil],fun k=>absurd rfl k⟩
   ·cases l with
    | nil=>cases h
    | cons a r=>
     simp only at h;split at h
     ·cases h
     ·rename_i hkk;have hka:(B3 a).2=0:=Decidable.not_not.1 hkk;split at h
      ·cases h
      ·rename_i h6;have h6':hk r=6:=Decidable.not_not.1 h6;obtain⟨c,hc,hr⟩:=DC h6' (by decide);split at h
       ·cases h
       ·rename_i hdd;split at h
        ·rename_i h7;obtain⟨m,hm,hr2⟩:=DC h7 (by decide);obtain⟨q,ks,ts,hq,hqd,ht,hdq⟩:=hD _ _ _ _ _ _ h;refine⟨[a,c]++m::q,(B3 a).1::ks,Ei::ts,by rw[hr,hr2,hq];simp,.cons _ _ _ m q ks ts (.none a c hka hc) hm hqd,by rw[ht,List.append_assoc,List.append_assoc];rfl,fun _=>?_⟩;unfold Ad.deepTs;rw[Fb];by_cases hts:ts=[]
         ·subst hts;unfold Ad.deepTs;omega
         ·have:=hdq hts;omega
        ·split at h
         ·rename_i h11;obtain⟨e,he,hr2⟩:=DC h11 (by decide);injection h with h1 h2;subst h1 h2;refine⟨[a,c]++[e],[(B3 a).1],[Ei],by rw[hr,hr2];simp,.last _ _ _ e (.none a c hka hc) he,rfl,fun _=>?_⟩;unfold Ad.deepTs Ad.deepTs;rw[Fb];omega
         ·cases hv:AB n (d+1) r.tail with
          | bad e=>rw[hv] at h;cases h
          | ok v rest'=>
           rw[hv] at h;simp only at h;obtain⟨p,hp,hpv,hdp⟩:=hV _ _ _ _ hv;split at h
           ·rename_i h7;obtain⟨m,hm,hr2⟩:=DC h7 (by decide);obtain⟨q,ks,ts,hq,hqd,ht,hdq⟩:=hD _ _ _ _ _ _ h;refine⟨(a::c::p)++m::q,(B3 a).1::ks,v::ts,by rw[hr,hp,hr2,hq];simp,.cons _ _ _ m q ks ts (.some a c p v hka hc hpv) hm hqd,by rw[ht,List.append_assoc,List.append_assoc];rfl,fun _=>?_⟩;unfold Ad.deepTs;by_cases hts:ts=[]
            ·subst hts;unfold Ad.deepTs;omega
            ·have:=hdq hts;omega
           ·split at h
            ·rename_i h11;obtain⟨e,he,hr2⟩:=DC h11 (by decide);injection h with h1 h2;subst h1 h2;refine⟨(a::c::p)++[e],[(B3 a).1],[v],by rw[hr,hp,hr2];simp,.last _ _ _ e (.some a c p v hka hc hpv) he,rfl,fun _=>?_⟩;unfold Ad.deepTs Ad.deepTs;omega
            ·cases h
theorem Am (v:Tr) (ts:List Tr):Ad.deepTs (v::ts)=max (Ad v) (Ad.deepTs ts):=by rw[Ad.deepTs]
theorem Ap:Ad.deepTs []=0:=by rw[Ad.deepTs]
theorem Aar {n d:Nat} {l:List Pc} {t:Tr} {rest:List Pc} (h:AB n d l=.ok t rest):∃ p,l=p++rest/\PV p t/\d+Ad t<=25:=(sound n).1 d l t rest h
def Iu (l:List Pc):FR:=AB (2*l.length+2) 1 l
def Bl (l:List Pc):Tr×Int:=match Iu l with
 | .ok t []=>(t,0)
 | .ok _ (_::_)=>(Ei,91)
 | .bad e=>(Ei,e)
theorem VD:∀ n,(∀ d l e,AB n d l=.bad e->e≠0)/\(∀ d l acc e,B9 n d l acc=.bad e->e≠0)/\(∀ d l ks ts e,AP n d l ks ts=.bad e->e≠0)
 | 0=>⟨fun d l e h=>by rw[AB] at h;injection h with h;omega,fun d l acc e h=>by rw[B9] at h;injection h with h;omega,fun d l ks ts e h=>by rw[AP] at h;injection h with h;omega⟩
 | n+1=>by
  obtain⟨hV,hI,hD⟩:=VD n;refine⟨fun d l e h=>?_,fun d l acc e h=>?_,fun d l ks ts e h=>?_⟩
  ·unfold AB at h;split at h
   ·injection h with h;omega
   ·cases l with
    | nil=>injection h with h;omega
    | cons t r=>
     try simp only at h
     split at h
     ·split at h
      ·injection h with h;omega
      ·cases hv:AB n d r with
       | bad e2=>rw[hv] at h;injection h with h;subst h;exact hV _ _ _ hv
       | ok v rest=>rw[hv] at h;cases h
     ·split at h
      ·cases h
      ·split at h
       ·exact hI _ _ _ _ h
       ·split at h
        ·exact hD _ _ _ _ _ h
        ·split at h
         ·cases h
         ·injection h with h;subst h;assumption
  ·unfold B9 at h;split at h
   ·cases h
   ·cases hv:AB n (d+1) l with
    | bad e2=>rw[hv] at h;injection h with h;subst h;exact hV _ _ _ hv
    | ok v rest=>
     rw[hv] at h;try simp only at h
     split at h
     ·exact hI _ _ _ _ h
     ·split at h
      ·cases h
      ·injection h with h;omega
  ·unfold AP at h;split at h
   ·cases h
   ·cases l with
    | nil=>injection h with h;omega
    | cons t r=>
     try simp only at h
     split at h
     ·injection h with h;subst h;assumption
     ·split at h
      ·injection h with h;omega
      ·split at h
       ·injection h with h;omega
       ·split at h
        ·exact hD _ _ _ _ _ h
        ·split at h
         ·cases h
         ·cases hv:AB n (d+1) r.tail with
          | bad e2=>rw[hv] at h;injection h with h;subst h;exact hV _ _ _ hv
          | ok v rest=>
           rw[hv] at h;try simp only at h
           split at h
           ·exact hD _ _ _ _ _ h
           ·split at h
            ·cases h
            ·injection h with h;omega
theorem NE {l:List Pc} {t:Tr} (h:Bl l=(t,0)):PV l t/\Ad t<=24:=by
 unfold Bl at h;cases hv:Iu l with
 | bad e=>
  rw[hv] at h;have he:e=0:=congrArg Prod.snd h;exact absurd he ((VD _).1 _ _ _ hv)
 | ok v rest=>
  rw[hv] at h;cases rest with
  | cons a r=>have he:(91:Int)=0:=congrArg Prod.snd h;omega
  | nil=>
   obtain⟨p,hp,hpv,hd⟩:=Aar hv;rw[List.append_nil] at hp;have:v=t:=congrArg Prod.fst h;subst this hp;exact⟨hpv,by omega⟩
end
section
def okN (c:UInt8):Bool:=BJ c||Ar [46,101,69,43,45,95] c
def ZN (l:List UInt8):Bool:= !l.isEmpty&&(BJ (l.getD 0 0)&&l.all okN)
def Xj (l:List UInt8):Bool:= !l.isEmpty&&Ar [43,45] (l.getD 0 0)
def Ag5 (l:List UInt8):Bool:= !l.isEmpty&&l.getD 0 0==46
def J8 (l:List UInt8):List UInt8:=if Xj l then l.tail else l
def UF (l:List UInt8):List UInt8:=if Ag5 l then l.tail else l
def Qx (l:List UInt8):Bool:=ZN (UF (J8 l))
theorem XC {p:UInt8->Bool} {l:List UInt8} {k:Nat} (h:k<l.length):(l.take (k+1)).all p=((l.take k).all p&&p (l.getD k 0)):=by
 rw[List.take_succ_eq_append_getElem h,List.all_append,List.getD,List.getElem?_eq_getElem h];simp
def DL (l:List UInt8):Int:=l.foldl (fun n c=>10*n+((c.toNat:Int) - 48)) 0
theorem XS {l:List UInt8} {k:Nat} (h:k<l.length):DL (l.take (k+1))=10*DL (l.take k)+(((l.getD k 0).toNat:Int) - 48):=by
 unfold DL;rw[List.take_succ_eq_append_getElem h,List.foldl_append,List.getD,List.getElem?_eq_getElem h];rfl
theorem Lv (l:List UInt8) (c:UInt8):DL (l++[c])=10*DL l+((c.toNat:Int) - 48):=by
 unfold DL;rw[List.foldl_append];rfl
theorem V3 {c:UInt8} (h:BJ c=true):48<=(c.toNat:Int)/\(c.toNat:Int)<=57:=by
 unfold BJ at h;simp at h;omega
theorem RZ (l:List UInt8):∀ k,k<=l.length->(l.take k).all BJ=true->0<=DL (l.take k)/\DL (l.take k)<10 ^ k
 | 0,_,_=>by simp[DL]
 | k+1,hk,h=>by
  rw[XC (by omega),Bool.and_eq_true] at h;have hi:=RZ l k (by omega) h.1;have hc:=V3 h.2;rw[XS (by omega),Int.pow_succ];omega
theorem WP (l:List UInt8) (h:l.all BJ=true):0<=DL l/\DL l<10 ^ l.length:=by
 have:=RZ l l.length Nr (by rw[List.take_length];exact h)
 rwa [List.take_length] at this
theorem XV {l:List UInt8} (hl:l.length<=15) (h:l.all BJ=true):0<=DL l/\DL l<=999999999999999:=by
 have hb:=WP _ h;have hp:(10:Int) ^ l.length<=10 ^ 15:=by
  have:(10:Nat) ^ l.length<=10 ^ 15:=Nat.pow_le_pow_right (by omega) hl
  exact_mod_cast this
 omega
def Ln (l:List UInt8):Bool:= !l.isEmpty&&l.getD 0 0==45
def digitsOf (l:List UInt8):List UInt8:=if Ln l then l.tail else l
def Oc (l:List UInt8):Bool:=(digitsOf l).isEmpty||(decide (15<(digitsOf l).length)||((digitsOf l).getD 0 0==48&& !(l==[48])))
def LW (l:List UInt8):Int×Bool:=
 if Oc l then (0,false) else if (digitsOf l).all BJ then (if Ln l then -(DL (digitsOf l)) else DL (digitsOf l),true) else (0,false)
end
section
def NG (l:List UInt8):Option (Sc×Int):=
 if l.isEmpty then F (AJ,0)
 else if l==[110,117,108,108] then F (AJ,0)
 else if l==[126] then F (AJ,0)
 else if l==[116,114,117,101] then F (⟨1,1,⟨#[]⟩⟩,0)
 else if l==[102,97,108,115,101] then F (⟨1,0,⟨#[]⟩⟩,0)
 else if l==[46,105,110,102] then F (AJ,50)
 else if l==[43,46,105,110,102] then F (AJ,50)
 else if l==[45,46,105,110,102] then F (AJ,50)
 else if l==[46,110,97,110] then F (AJ,50)
 else O
def JS (s:ByteArray):Sc×Int:=
 if !Qx s.data.toList then (⟨3,0,s⟩,0) else if !(LW s.data.toList).2 then (AJ,50) else (⟨2,(LW s.data.toList).1,⟨#[]⟩⟩,0)
def N8 (s:ByteArray):Sc×Int:=
 if !s.data.toList.isEmpty&& !RF s.data.toList false then (AJ,51) else (NG s.data.toList).getD (JS s)
end
end Go.Proofs.YtdpppepmkeinaaaGreatDoor
