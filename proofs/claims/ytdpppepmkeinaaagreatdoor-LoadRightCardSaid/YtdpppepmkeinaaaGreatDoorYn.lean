/- What is proved: a part of the walk of the program and of its plain laws; no condition beside those that each theorem names. -/
import Derived.Test.YtdpppepmkeinaaaGreatDoorYl
import Derived.Test.YtdpppepmkeinaaaGreatDoorYm
import Derived.Test.YtdpppepmkeinaaaGreatDoorYa
import Derived.Test.YtdpppepmkeinaaaGreatDoorYg
import Derived.Test.YtdpppepmkeinaaaGreatDoorYb
import Derived.Deep.CutRange
namespace Go.Proofs.YtdpppepmkeinaaaGreatDoor
open Go Go.RowKit Go.Lib
open Go.Value renaming int->I,string->Q,slice->Z
open Go.IntKind renaming i64->J
open Option renaming none->O,some->F
open _root_.Go renaming World->Y
set_option linter.unusedSimpArgs false
set_option linter.unusedVariables false
set_option linter.unusedSectionVars false
section
set_option maxHeartbeats 4000000
set_option maxRecDepth 100000
def Fx (w:Y) (S:Nat->Prop) (A:Option Addr) (l:List BX):Prop:=∀ (j:Nat) (t:BX),l[j]? =F t->∃ b o,A=F ⟨b,o,O⟩/\S b/\Cs w b (o+j*3) (CY t)
theorem Fx.to {w w':Y} {S S':Nat->Prop} {A:Option Addr} {l:List BX} (h:Fx w S A l) (hc:∀ b o v,S b->w.cell? ⟨b,o,O⟩=F v->w'.cell? ⟨b,o,O⟩=F v/\S' b):Fx w' S' A l:=fun j x hj=>by
 obtain⟨b,o,e,hb,hcs⟩:=h j x hj;exact⟨b,o,e,(hc b _ _ hb (hcs 0 _ rfl)).2,fun i v hv=>(hc b _ _ hb (hcs i v hv)).1⟩
theorem Ui (S:Nat->Prop) (A:Option Addr) (c:Nat) (is:List Int) (x:Int) (w:Y) (h:GT w S A is) (hn:is.length<=1000000):
  Calls Tryz.prog 298 #[Z A is.length c,I J x] w fun e w'=>e=.returned (I J (O3 (fun y=>(x==y)) is))/\Below w.heap.size w w':=by
 refine V.enter _ Tryz.func298 (Mem.start (C:=Ao) w) ?_
 repeat refine W ?_
 refine V.loop (fun k=>k<=is.length/\∀ (j:Nat) y,j<k->is[j]? =F y->(x==y)=false) (fun _=>Mem Ao w []) (fun k=>[(8,I J k),(7,I J is.length),(0,Z A is.length c),(1,I J x)]) (is.length - ·) 0 ⟨by omega,fun j y hj=>by omega⟩ (fun w h=>h) ⟨rfl,rfl,rfl,rfl,trivial⟩ ?_;rintro k ⟨hk,hne⟩
 repeat refine W ?_
 refine V.ifp (fun hlt=>?_) (fun hge=>?_)
 ·have hlt:k<is.length:=by omega
  obtain⟨y,hy⟩:∃ y,is[k]? =F y:=⟨_,List.getElem?_eq_getElem hlt⟩
  obtain⟨b,o,rfl,_,hc⟩:=h k y hy
  repeat refine W ?_
  refine R.ix hlt ?_;refine R.lo 0 hc ?_
  repeat refine W ?_
  refine V.if (fun he=>?_) (fun he=>?_)
  ·repeat refine W ?_
   refine V.end fun w' h'=>?_;exact⟨by rw[L0 hy he hne];rfl,h'.1.below⟩
  ·repeat refine W ?_
   have hne':∀ (j:Nat) z,j<k+1->is[j]? =F z->(x==z)=false:=fun j z hj hz=>by
    by_cases e:j=k
    ·subst e;rw[hy] at hz;cases hz;exact he
    ·exact hne j z (by omega) hz
   exact V.again (k+1) rfl ⟨hlt,hne'⟩
 ·repeat refine W ?_
  refine V.end fun w' h'=>?_;exact⟨by rw[Jt fun j y hy=>hne j y (by have:=(List.getElem?_eq_some_iff.1 hy).1;omega) hy];rfl,h'.1.below⟩
theorem MI (S:Nat->Prop) (A:Option Addr) (c:Nat) (is:List Int) (x:Int) (w:Y) (h:GT w S A is) (hn:is.length<=1000000):
  Calls Tryz.prog 292 #[Z A is.length c,I J x] w fun e w'=>e=.returned (.bool (is.any fun y=>(x==y)))/\Below w.heap.size w w':=by
 refine V.enter _ Tryz.func292 (Mem.start (C:=Ao) w) ?_
 repeat refine W ?_
 refine R.c (fun w' h'=>Ui S A c is x w' (h.to fun b o v hb hv=>⟨h'.1.cell hv (fun e=>e),hb⟩) hn) ?_
 repeat refine W ?_
 refine V.end fun w' h'=>?_;exact⟨by rw[<- Le];rfl,h'.1.below⟩
def CQ (l:List BX) (p:Nat) (ks:List Int):Bool:=match l[p]? with
 | some t=>ks.any fun y=>t.kind==y
 | none=>false
theorem Ig (S S2:Nat->Prop) (r:Nat) (A K:Option Addr) (c kc:Nat) (l:List BX) (p:Nat) (ks:List Int) (w:Y) (hr:Cs w r 0 [Z A l.length c,I J p]) (hl:Fx w S A l) (hk:GT w S2 K ks) (hn:ks.length<=1000000):
  Calls Tryz.prog 283 #[.pointer (F ⟨r,0,O⟩),Z K ks.length kc] w fun e w'=>e=.returned (.bool (CQ l p ks))/\Below w.heap.size w w':=by
 refine V.enter _ Tryz.func283 (Mem.start (C:=Ao) w) ?_
 repeat refine W ?_
 refine R.lo 1 hr ?_
 repeat refine W ?_
 refine R.lo 1 hr ?_
 repeat refine W ?_
 refine R.lo 0 hr ?_
 repeat refine W ?_
 by_cases hlt:p<l.length
 ·obtain⟨t,ht⟩:∃ t,l[p]? =F t:=⟨_,List.getElem?_eq_getElem hlt⟩
  obtain⟨b,o,rfl,_,hc⟩:=hl p t ht;have hip:CQ l p ks=ks.any fun y=>t.kind==y:=by unfold CQ;rw[ht]
  rw[hip];refine R.yes 22 hlt ?_
  repeat refine W ?_
  refine R.lo 0 hr ?_
  repeat refine W ?_
  refine R.lo 1 hr ?_
  repeat refine W ?_
  refine R.ix hlt ?_
  repeat refine W ?_
  refine R.lo 0 hc ?_
  repeat refine W ?_
  refine R.c (fun w' h'=>MI S2 K kc ks t.kind w' (hk.to fun b o v hb hv=>⟨h'.1.cell hv (fun e=>e),hb⟩) hn) ?_
  repeat refine W ?_
  refine V.end fun w' h'=>?_;exact⟨rfl,h'.1.below⟩
 ·have hip:CQ l p ks=false:=by unfold CQ;rw[List.getElem?_eq_none (by omega)]
  rw[hip];refine R.no 22 hlt ?_
  repeat refine W ?_
  refine V.end fun w' h'=>?_;exact⟨rfl,h'.1.below⟩
def Bv (A:Option Addr) (c:Nat) (l:List BX) (r p:Nat):Aj:=blk r [Z A l.length c,I J p] 398
structure M5 (wB:Y) (A:Option Addr) (l:List BX):Prop where
 tks:Fx wB (fun b=>b<wB.heap.size) A l
 len:l.length<=1000000
 small:∀ t∈l,t.str.length<=1000000
 tabs:Bf wB
theorem M5.at {wB w w':Y} {Fz:Nat->Prop} {A:Option Addr} {l:List BX} (h:M5 wB A l) (hB:Below wB.heap.size wB w) (hQ:FG wB Fz) (hx:AI Fz w w'):Fx w' (fun b=>b<wB.heap.size) A l:=h.tks.to fun b o v hb hv=>⟨cell_below hv (AI.belowB hB hQ hx),hb⟩
theorem Gb {wB:Y} {A:Option Addr} {c:Nat} {l:List BX} (hP:M5 wB A l) (r p:Nat) (k:Int) (w:Y) (hB:Below wB.heap.size wB w) (hp:p<=l.length):
  BT Tryz.prog 294 #[.pointer (F ⟨r,0,O⟩),I J k] w (Bv A c l r p) (FG wB) (fun _:Unit=>.bool (CQ l p [k])) (fun _=>Bv A c l r (if CQ l p [k] then p+1 else p)):=by
 intro Fz hX hF hQ;have hlen:=hP.len;refine V.enter _ Tryz.func294 (Mem.startX hX hF) ?_;unfold Bv
 repeat refine W ?_
 refine R.bs (m:=1) (fun bk hb=>?_);refine R.c (fun w' h'=>Ig (fun b=>b<wB.heap.size) (fun _=>True) r A (F ⟨bk,0,O⟩) c 1 l p [k] w' (Cs.of_blk (h'.blk (List.Mem.tail _ (List.Mem.head _)))) (hP.at hB hQ h'.1) (fun j i hj=>by
  match j,hj with
  | 0,hj=>cases hj;exact⟨bk,0,rfl,trivial,Cs.of_blk (h'.blk (List.Mem.head _))⟩) (by simp)) ?_
 repeat refine W ?_
 refine V.if (fun he=>?_) (fun he=>?_)
 ·repeat refine W ?_
  refine V.end fun w' h'=>?_;refine⟨(),rfl,?_⟩;rw[he,if_pos rfl];exact Mem.toW (h'.sel:Mem Fz w [blk r _ _] w')
 ·repeat refine W ?_
  refine V.end fun w' h'=>?_;refine⟨(),rfl,?_⟩;rw[he,if_neg (by simp)];exact Mem.toW (h'.sel:Mem Fz w [blk r _ _] w')
end
section
section
variable {P:Program} {n:Nat} {ds:List Deferred} {d:Bool} {ops:Array Oper} {K:Act->Y->Prop} {i:Nat} {T pl pend:List Nat} {l:Env}
 {t:Nat} {ty:TypeId} {ps:String} {af:Array Edge} {gd:Option (Nat×Bool)} {C:Nat->Prop} {w0:Y} {A A' Az:List Aj}
theorem Zz.st {x y:Operand} {tt bt:TypeId} {b o:Nat} {v:Value} {cs cs':List Value} (h:Rz P n ds d ops K T pl pend (Mem C w0 Az) (Mem C w0 A') l) (ho:Aw ops.toList i=F ⟨O,.store tt x y,ty,ps,af,gd⟩:=by rfl) (hx:ev l x=F (.pointer (F ⟨b,o,O⟩)):=by rfl) (hy:ev l y=F v:=by rfl) (hr:Dt (blk b cs bt) (blk b cs' bt) A A':=by(repeat (first | exact Dt.hd | apply Dt.tl));first | done | fail) (hv:AC cs o v.cells.toList=F cs':=by rfl) (ho1:v.cells.toList.all Value.oneCell'=true:=by rfl) (hs:∀ w,(sizeOf tt).run P w=.ok v.cells.size w:=by intro w;simp;(try rfl);first | done | fail) (hz:∀ w,Mem C w0 A' w->Mem C w0 Az w:=by exact fun w h=>h.sel) (hg:Cv ops.toList l gd=F true:=by rfl):Rz P n ds d ops K T (i::pl) pend (Mem C w0 Az) (Mem C w0 A) l:=
 Zz.eff (ι:=Unit) (Si:=fun _=>Mem C w0 A') (li:=fun _=>l) ho hg rfl (fun a w K' ha hd hw hk=>by
  obtain⟨G,⟨g1,g2⟩,g3,g4⟩:=hw.rep hr;obtain⟨w',k1,k2,k3,k4⟩:=F7 (P:=P) v.cells.toList 0 cs cs' w g2 hv ho1;unfold Eo;have:(execOp a.eval ⟨O,.store tt x y,ty,ps,af,gd⟩).run P w=.ok .skip w':=by
   simp only[execOp,ha.ev hx,ha.ev hy,Sem.run_bind,Instr.storeAt,Instr.sureAddr,storeVar]
   simp[Sem.run_bind,hs w,k1,pure,Sem.run]
  rw[this];exact hk () undef w' (g4 G w' ⟨g1,k2⟩ (k3.sub (fun k _ e=>by subst e;exact g1)) (fun k hk=>⟨by rw[k4];exact(g3 k hk).1,.inl hk⟩)) ha) (fun _ w h=>hz w h) (fun _=>h)
end
end
section
section
variable {P:Program} {Fz:Fence} {Qr:Exit->Act->Y->Prop} {n:Nat} {ds:List Deferred} {ops:Array Oper} {K:Act->Y->Prop} {pl pend:List Nat} {l:Env} {Zf S:Y->Prop}
theorem V.regT [Dr S] {k k':List Je} {id:Nat} (T pl:List Nat) (Zf:Y->Prop) (hr:Rz P n ds true ops (td P Fz Qr O k') T pl [] Zf S l) (hF:LZ Fz:=by first | exact .inl rfl | exact .inr ⟨_,rfl⟩) (hm:P.follows .mixedOrders=true:=by kernel_rfl) (h:G8 400 O k=.reg id ops true k':=by rfl) (hok:(K0 P true ops n T pl&&okS true ops (pl++T)&&E1 ops)=true:=by kernel_rfl):V P Fz Qr n ds k S l:=V.at h fun a w ha hw=>by
 rw[Bool.and_eq_true,Bool.and_eq_true] at hok;obtain⟨⟨h1,h2⟩,h3⟩:=hok;have hr:=hr h1;show(Code.region id ops true).wpIn Fz 0 P _ a w;dsimp only at hr;obtain⟨hl,hn⟩:=U9 h2;have:=hr (fun _ _=>True) (fun _ hj=>by cases hj) a w.drew ha (Dr.drew w hw);rw[hl,hn] at this;exact wpIn_region_any hm (J8 hF h3 (fun a w h=>h) _ _ _ _ this)
def LV (P:Program) (ops:Array Oper) (n i j:Nat) (T T1 T2 R1 R2:List Nat):Bool:=
 !(Region.ready .any ops (lst ops T)).isEmpty&&(Region.ready .any ops (lst ops T)).all (fun k=>k==i||k==j)&&(lst ops T).setIfInBounds i true==lst ops (T1++R1)&&(lst ops T).setIfInBounds j true==lst ops (T2++R2)&&
  T.length==(T1++R1).length+1&&T.length==(T2++R2).length+1&&K0 P true ops n R1 T1&&K0 P true ops n R2 T2&&(match ops[i]? with | some o=>Il n o | none=>false)&&(match ops[j]? with | some o=>Il n o | none=>false)
theorem Zz.fork {α β:Type} {i j:Nat} {oi oj:Oper} {T T1 T2 R1 R2:List Nat} {S1:α->Y->Prop} {l1:α->Env} {S2:β->Y->Prop} {l2:β->Env} (hi:Aw ops.toList i=F oi) (hj:Aw ops.toList j=F oj) (hgi:oi.guard=O) (hgj:oj.guard=O) (hck:LV P ops n i j T T1 T2 R1 R2=true)
  (e1:∀ a w (K':Act->Y->Prop),Kn n ds l a->(∀ v,Kn n ds (addl l oi.dst v) (a.put oi.dst v))->S w->(∀ x v w',S1 x w'->Kn n ds (l1 x) (a.put oi.dst v)->K' (a.put oi.dst v) w')->Eo P oi a w K')
  (e2:∀ a w (K':Act->Y->Prop),Kn n ds l a->(∀ v,Kn n ds (addl l oj.dst v) (a.put oj.dst v))->S w->(∀ x v w',S2 x w'->Kn n ds (l2 x) (a.put oj.dst v)->K' (a.put oj.dst v) w')->Eo P oj a w K')
  (p1:∀ x w,S1 x w->Zf w) (p2:∀ x w,S2 x w->Zf w) (h1:∀ x,Rz P n ds true ops K R1 T1 pend Zf (S1 x) (l1 x)) (h2:∀ x,Rz P n ds true ops K R2 T2 pend Zf (S2 x) (l2 x)):Rz P n ds true ops K T [] pend Zf S l:=by
 intro _;rw[DB,Array.getElem?_toList] at hi hj;unfold LV at hck;rw[hi,hj] at hck;simp only[Bool.and_eq_true,Bool.not_eq_true',List.all_eq_true,Bool.or_eq_true,beq_iff_eq] at hck;obtain⟨⟨⟨⟨⟨⟨⟨⟨⟨c3,c4⟩,c5⟩,c6⟩,c7⟩,c8⟩,c9⟩,ca⟩,cb⟩,cc⟩:=hck;have h1:=fun x=>h1 x c9;have h2:=fun x=>h2 x ca;dsimp only at h1 h2 |-;intro Rs hRs a w ha hw;have wi:∀ f,Region.wanted oi f=true:=fun f=>by unfold Region.wanted;rw[hgi]
 have wj:∀ f,Region.wanted oj f=true:=fun f=>by unfold Region.wanted;rw[hgj]
 show D6 P .any ops K (Tm P ops Rs pend) T.length (lst ops T) a w;rw[c7];refine⟨fun e=>(by rw[e] at c3;cases c3),fun k hk=>?_⟩;rcases c4 k hk with e | e
 ·subst e;unfold K5;rw[hi];dsimp only
  rw[if_pos (wi _)];refine e1 a w _ ha (ha.addl cb) hw (fun x v w' hs hk=>?_);have:=h1 x Rs hRs _ w' hk hs;rw[c5];exact⟨fun k hk _=>hRs k hk w' (p1 x w' hs),this⟩
 ·subst e;unfold K5;rw[hj];dsimp only
  rw[if_pos (wj _)];refine e2 a w _ ha (ha.addl cc) hw (fun x v w' hs hk=>?_);have:=h2 x Rs hRs _ w' hk hs;rw[c6,show(T1++R1).length=(T2++R2).length by omega];exact⟨fun k hk _=>hRs k hk w' (p2 x w' hs),this⟩
theorem Zz.last {ι:Type} {d:Bool} {T pl:List Nat} {k:List Je} {Si:ι->Y->Prop} {li:ι->Env} (h:(∀ x,V P Fz Qr n ds k (Si x) (li x))->Rz P n ds d ops (td P Fz Qr O k) T pl pend Zf S l) (hV:∀ x,V P Fz Qr n ds k (Si x) (li x)):Rz P n ds d ops (td P Fz Qr O k) T pl pend Zf S l:=h hV
theorem V.less {k:List Je} {l l':Env} {S S':Y->Prop} (h:V P Fz Qr n ds k S' l') (hs:∀ w,S w->S' w) (hl:Tj l l':=by repeat (first | exact trivial | refine⟨rfl,?_⟩)):V P Fz Qr n ds k S l:=fun a w ha hw=>h a w (ha.sub hl.lk) (hs w hw)
end
section
variable {P:Program} {n:Nat} {ds:List Deferred} {ops:Array Oper} {K:Act->Y->Prop} {T T1 T2 pend:List Nat} {l:Env} {C:Nat->Prop} {w0:Y} {A Az:List Aj}
theorem Zz.nc {ι:Type} (i j:Nat) {s t:Nat} {op:Op} {ty ty2:TypeId} {ps ps2:String} {af af2:Array Edge} {cs:List Value} {bt:TypeId} {v:ι->Value} {X:ι->List Aj} {f:FuncId} {fn:Operand} {fs cc:Array Value} {args:List Operand} {ts:Array TypeId} {vs aa:List Value}
  (hc:∀ w,Mem C w0 A w->Calls P f aa.toArray w fun e w'=>∃ x,e=.returned (v x)/\Fr w w' (X x)) (hv:∀ ρ w,(execOp ρ ⟨F s,op,ty,ps,af,O⟩).run P w=.ok (.value (.pointer (F ⟨w.heap.size,0,O⟩))) (w.alloc (.cells cs.toArray bt)))
  (h1:∀ b,w0.heap.size<=b->Rz P n ds true ops K [] T1 pend (Mem C w0 Az) (Mem C w0 (blk b cs bt::A)) ((s,.pointer (F ⟨b,0,O⟩))::l))
  (h2:∀ x,Rz P n ds true ops K [] T2 pend (Mem C w0 Az) (Mem C w0 (X x++A)) ((t,v x)::l)) (hz:∀ w,Mem C w0 A w->Mem C w0 Az w:=by exact fun w h=>h.sel)
  (hi:Aw ops.toList i=F ⟨F s,op,ty,ps,af,O⟩:=by rfl) (hj:Aw ops.toList j=F ⟨F t,.call {callee:=.value fn,args:=args.toArray,argTypes:=ts},ty2,ps2,af2,O⟩:=by rfl)
  (hf:ev l fn=F (.func (.func f) fs cc):=by rfl) (hes:evs l args=F vs:=by rfl) (he:fs.toList++(vs++cc.toList)=aa:=by rfl) (hr:∀ args w,(callFunc f args).run P w=.ok (.enter f args) w:=by intro args w;simp;first | done | fail)
  (hck:LV P ops n i j T T1 T2 [] []=true:=by kernel_rfl):Rz P n ds true ops K T [] pend (Mem C w0 Az) (Mem C w0 A) l:=
 Zz.fork (α:={b:Nat // w0.heap.size<=b}) (S1:=fun b=>Mem C w0 (blk b.1 cs bt::A)) (l1:=fun b=>(s,.pointer (F ⟨b.1,0,O⟩))::l) (S2:=fun x=>Mem C w0 (X x++A)) (l2:=fun x=>(t,v x)::l) hi hj rfl rfl hck
  (fun a w K' ha hd hw hk=>by
   unfold Eo;rw[hv a.eval w];exact hk ⟨w.heap.size,hw.1.size⟩ _ _ (hw.alloc cs bt) (hd _))
  (fun a w K' ha hd hw hk=>by
   unfold Eo;rw[E7 ha hf hes hr he];exact(hc w hw).mono (by rintro e w' ⟨x,rfl,hm⟩;exact⟨_,rfl,hk x _ _ (hw.fr hm) (hd _)⟩))
  (fun x w h=>hz w (h.sub (List.sublist_cons_self ..))) (fun x w h=>hz w (h.sub (List.sublist_append_right ..))) (fun x=>h1 x.1 x.2) h2
end
end
section
section
variable {P:Program} {n:Nat} {ds:List Deferred} {d:Bool} {ops:Array Oper} {K:Act->Y->Prop} {i:Nat} {T pl pend:List Nat} {l:Env}
 {t:Nat} {ty:TypeId} {ps:String} {af:Array Edge} {gd:Option (Nat×Bool)} {C:Nat->Prop} {w0:Y} {A A' Az:List Aj}
theorem Zz.sta {x y:Operand} {tt bt:TypeId} {b o:Nat} {v:Value} {cs cs':List Value} (ho:Aw ops.toList i=F ⟨O,.store tt x y,ty,ps,af,gd⟩:=by rfl) (hx:ev l x=F (.pointer (F ⟨b,o,O⟩)):=by rfl) (hy:ev l y=F v:=by rfl) (hr:Dt (blk b cs bt) (blk b cs' bt) A A':=by(repeat (first | exact Dt.hd | apply Dt.tl));first | done | fail) (hv:AC cs o v.cells.toList=F cs':=by rfl) (ho1:v.cells.toList.all Value.oneCell'=true:=by rfl) (hs:∀ w,(sizeOf tt).run P w=.ok v.cells.size w:=by intro w;simp;(try rfl);first | done | fail) (hz:∀ w,Mem C w0 A' w->Mem C w0 Az w:=by exact fun w h=>h.sel) (hg:Cv ops.toList l gd=F true:=by rfl):
  (Rz P n ds d ops K T pl pend (Mem C w0 Az) (Mem C w0 A') l)->Rz P n ds d ops K T (i::pl) pend (Mem C w0 Az) (Mem C w0 A) l:=fun h=>Zz.st h ho hx hy hr hv ho1 hs hz hg
theorem Zz.c {v:Value} {f:FuncId} {fn:Operand} {fs cs:Array Value} {args:List Operand} {ts:Array TypeId} {vs aa:List Value}
  (hc:∀ w,Mem C w0 A w->Calls P f aa.toArray w fun e w'=>e=.returned v/\Below w.heap.size w w') (h:Rz P n ds d ops K T pl pend (Mem C w0 Az) (Mem C w0 A) ((t,v)::l)) (hz:∀ w,Mem C w0 A w->Mem C w0 Az w:=by exact fun w h=>h.sel)
  (ho:Aw ops.toList i=F ⟨F t,.call {callee:=.value fn,args:=args.toArray,argTypes:=ts},ty,ps,af,gd⟩:=by rfl) (hf:ev l fn=F (.func (.func f) fs cs):=by rfl) (hs:evs l args=F vs:=by rfl) (he:fs.toList++(vs++cs.toList)=aa:=by rfl) (hr:∀ args w,(callFunc f args).run P w=.ok (.enter f args) w:=by intro args w;simp;first | done | fail)
  (hg:Cv ops.toList l gd=F true:=by rfl):Rz P n ds d ops K T (i::pl) pend (Mem C w0 Az) (Mem C w0 A) l:=
 Zz.eff (ι:=Unit) (Si:=fun _=>Mem C w0 A) (li:=fun _=>(t,v)::l) ho hg rfl (fun a w K' ha hd hw hk=>by
  unfold Eo;rw[E7 ha hf hs hr he];exact(hc w hw).mono (by rintro e w' ⟨rfl,hb⟩;exact⟨_,rfl,hk () _ _ (hw.below hb) (hd _)⟩)) (fun _ w h=>hz w h) (fun _=>h)
end
section
variable {P:Program} {n:Nat} {ds:List Deferred} {ops:Array Oper} {K:Act->Y->Prop} {T T1 T2 pend:List Nat} {l:Env} {C:Nat->Prop} {w0:Y} {A Az:List Aj}
theorem Zz.ncc (i j:Nat) {s t:Nat} {op:Op} {ty ty2:TypeId} {ps ps2:String} {af af2:Array Edge} {cs:List Value} {bt:TypeId} {v:Value} {f:FuncId} {fn:Operand} {fs cc:Array Value} {args:List Operand} {ts:Array TypeId} {vs aa:List Value}
  (hc:∀ w,Mem C w0 A w->Calls P f aa.toArray w fun e w'=>e=.returned v/\Below w.heap.size w w') (hv:∀ ρ w,(execOp ρ ⟨F s,op,ty,ps,af,O⟩).run P w=.ok (.value (.pointer (F ⟨w.heap.size,0,O⟩))) (w.alloc (.cells cs.toArray bt)))
  (h1:∀ b,w0.heap.size<=b->Rz P n ds true ops K [] T1 pend (Mem C w0 Az) (Mem C w0 (blk b cs bt::A)) ((s,.pointer (F ⟨b,0,O⟩))::l))
  (h2:Rz P n ds true ops K [] T2 pend (Mem C w0 Az) (Mem C w0 A) ((t,v)::l)) (hz:∀ w,Mem C w0 A w->Mem C w0 Az w:=by exact fun w h=>h.sel)
  (hi:Aw ops.toList i=F ⟨F s,op,ty,ps,af,O⟩:=by rfl) (hj:Aw ops.toList j=F ⟨F t,.call {callee:=.value fn,args:=args.toArray,argTypes:=ts},ty2,ps2,af2,O⟩:=by rfl)
  (hf:ev l fn=F (.func (.func f) fs cc):=by rfl) (hes:evs l args=F vs:=by rfl) (he:fs.toList++(vs++cc.toList)=aa:=by rfl) (hr:∀ args w,(callFunc f args).run P w=.ok (.enter f args) w:=by intro args w;simp;first | done | fail)
  (hck:LV P ops n i j T T1 T2 [] []=true:=by kernel_rfl):Rz P n ds true ops K T [] pend (Mem C w0 Az) (Mem C w0 A) l:=
 Zz.fork (α:={b:Nat // w0.heap.size<=b}) (β:=Unit) (S1:=fun b=>Mem C w0 (blk b.1 cs bt::A)) (l1:=fun b=>(s,.pointer (F ⟨b.1,0,O⟩))::l) (S2:=fun x=>Mem C w0 A) (l2:=fun x=>(t,v)::l) hi hj rfl rfl hck
  (fun a w K' ha hd hw hk=>by
   unfold Eo;rw[hv a.eval w];exact hk ⟨w.heap.size,hw.1.size⟩ _ _ (hw.alloc cs bt) (hd _))
  (fun a w K' ha hd hw hk=>by
   unfold Eo;rw[E7 ha hf hes hr he];exact(hc w hw).mono (by rintro e w' ⟨rfl,hb⟩;exact⟨_,rfl,hk () _ _ (hw.below hb) (hd _)⟩))
  (fun x w h=>hz w (h.sub (List.sublist_cons_self ..))) (fun x w h=>hz w h) (fun x=>h1 x.1 x.2) (fun _=>h2)
end
theorem Wy {Jz J':Prop} (k:J') (h:J'->Jz:=by first | exact Zz.add | exact Zz.sub | exact Zz.p | exact Zz.lb | exact Zz.u | exact Zz.sta):Jz:=h k
end
section
set_option maxRecDepth 100000
set_option maxHeartbeats 400000
theorem JC {α:Type} [BEq α] {a:α}:∀ {l:List (α×Value)} {v:Value},AN a l=F v->∃ p∈l,p.2=v
 | [],_,h=>by simp[AN] at h
 | p::l,v,h=>by
  unfold AN at h;split at h
  ·exact⟨p,by simp,by injection h⟩
  ·obtain⟨q,hq,e⟩:=JC h;exact⟨q,by simp[hq],e⟩
theorem Ol (s:ByteArray):Af4 (Cw s):=by
 unfold Cw;split
 ·rename_i v h;obtain⟨p,hp,rfl⟩:=JC h;simp only[Dx,List.mem_cons,List.not_mem_nil,or_false] at hp;rcases hp with rfl | rfl | rfl | rfl | rfl | rfl | rfl | rfl | rfl
  ·exact .inl rfl
  ·exact .inl rfl
  ·exact .inl rfl
  ·exact .inr (.inr (.inl ⟨true,rfl⟩))
  ·exact .inr (.inr (.inl ⟨false,rfl⟩))
  ·exact .inr (.inl rfl)
  ·exact .inr (.inl rfl)
  ·exact .inr (.inl rfl)
  ·exact .inr (.inl rfl)
 ·split
  ·unfold Ge;split
   ·split
    ·exact .inr (.inr (.inr (.inl ⟨_,rfl⟩)))
    ·exact .inr (.inl rfl)
   ·exact .inr (.inl rfl)
  ·exact .inr (.inr (.inr (.inr ⟨_,rfl⟩)))
def AM (s:ByteArray):Sc×Int:=if !s.data.toList.isEmpty&& !Fl s.data.toList false then (A4,51) else Fs (Cw s)
theorem RB (s:ByteArray) (w:Y) (hs:s.size<=1000000) (hT:Bf w):
  Calls Tryz.prog 42 #[Q s] w fun e w'=>e=.returned (.tuple #[Di (AM s).1,I J (AM s).2])/\Below w.heap.size w w':=by
 have tail:∀ w1:Y,Below w.heap.size w w1->Bf w1->(s.data.toList.isEmpty=true\/Fl s.data.toList false=true)->AM s=Fs (Cw s):=fun _ _ _ h=>by
  unfold AM;rcases h with h | h<;>simp[h]
 have TAIL:=hid tail;clear tail;obtain⟨⟨⟨k,n,t⟩,er⟩,hx⟩:∃ p,Fs (Cw s)=p:=⟨_,rfl⟩
 have HX:=hid hx;clear hx;have hv:=Ol s;by_cases h0:0<s.size
 ·have he:=Ax h0;have hne:s.data.toList.isEmpty=false:=by rw[<- Lib.toList_data];exact he
  have HE:=hid hne;clear hne;go_enter Tryz.func42,Tryz.ntmps42;go_wp2_with fail;refine(UM s false _ hs (hT.below ((Bq _ w).alloc Nr _))).mono ?_;rintro e w1 ⟨rfl,hb1⟩;have hbw:Below w.heap.size w w1:=((Bq _ w).alloc Nr _).trans (hb1.mono (by simp));have hT1:=hT.below hbw;have hk:=DI _ _ hb1;cases hm:Fl s.data.toList false with
  | false=>
   obtain⟨c0,c1,c2,f0,f1,f2⟩:=DU hk;have HM:=hid hm;clear hm hk;go_wp2;refine bodyPost_ret (v:=.tuple #[.agg #[I J 0,I J 0,Q ⟨#[]⟩],I J 51]) (by simp[results,Tryz.results42,go_sem,c0,c1,c2]) rfl ⟨?_,?_⟩
   ·rw[show AM s=(A4,51) from(by unfold AM;rw[HE.out,HM.out];rfl)];rfl
   ·repeat (first | exact hbw | refine Below.setCell ?_ (by simp) _)
  | true=>
   have HR:=hid (TAIL.out w1 hbw hT1 (.inr hm));clear hm;go_wp2_with fail;refine(NE s _ hs hT1).mono ?_;rintro e w2 ⟨rfl,hb2⟩;go_wp2_with fail;refine(KQ _ _ hv).mono ?_;rw[HX.out];unfold Di;rintro e w3 ⟨rfl,hb3⟩;have hk3:=Ay (Ay hk hb2) hb3;have hb03:Below w.heap.size w w3:=(hbw.trans (hb2.mono hbw.size)).trans (hb3.mono (Nat.le_trans hbw.size hb2.size));obtain⟨c0,c1,c2,f0,f1,f2⟩:=DU hk3;clear hk hk3;go_wp2;refine bodyPost_ret (v:=.tuple #[.agg #[I J k,I J n,Q t],I J er]) (by simp[results,Tryz.results42,go_sem,c0,c1,c2]) rfl ⟨?_,?_⟩
   ·rw[HR.out,HX.out];rfl
   ·repeat (first | exact hb03 | refine Below.setCell ?_ (by simp) _)
 ·have he:=A9 h0;have hne:s.data.toList.isEmpty=true:=by rw[<- Lib.toList_data];exact he
  have hT1:=hT.below ((Bq _ w).alloc Nr (.cells #[I J 0,I J 0,Q ⟨#[]⟩] 36));have HR:=hid (TAIL.out _ ((Bq _ w).alloc Nr _) hT1 (.inl hne));clear hne;go_enter Tryz.func42,Tryz.ntmps42;go_wp2_with fail;refine(NE s _ hs hT1).mono ?_;rintro e w2 ⟨rfl,hb2⟩;go_wp2_with fail;refine(KQ _ _ hv).mono ?_;rw[HX.out];unfold Di;rintro e w3 ⟨rfl,hb3⟩;have hk3:=Ay (DI _ _ hb2) hb3;have hb03:Below w.heap.size w w3:=(((Bq _ w).alloc Nr _).trans (hb2.mono (by simp))).trans (hb3.mono (by have:=hb2.size;simp at this;omega));obtain⟨c0,c1,c2,f0,f1,f2⟩:=DU hk3;clear hk3;go_wp2;refine bodyPost_ret (v:=.tuple #[.agg #[I J k,I J n,Q t],I J er]) (by simp[results,Tryz.results42,go_sem,c0,c1,c2]) rfl ⟨?_,?_⟩
  ·rw[HR.out,HX.out];rfl
  ·repeat (first | exact hb03 | refine Below.setCell ?_ (by simp) _)
def Ap (x:Sc):Bool:=
 if x.kind=0 then (x.num==0)&&x.str.data.toList.isEmpty
 else if x.kind=1 then x.str.data.toList.isEmpty&&(x.num==0||x.num==1)
 else if x.kind=2 then x.str.data.toList.isEmpty&&(decide (-999999999999999<=x.num)&&decide (x.num<=999999999999999))
 else if x.kind=3 then (x.num==0)&&validD x.str.data.toList
 else false
theorem Gu (k n:Int) (s:ByteArray) (w:Y) (hs:s.size<=1000000) (hT:Bf w):
  Calls Tryz.prog 139 #[.agg #[I J k,I J n,Q s]] w fun e w'=>e=.returned (.bool (Ap ⟨k,n,s⟩))/\Below w.heap.size w w':=by
 have hb0:Below w.heap.size w (w.alloc (.cells #[I J k,I J n,Q s] 36)):=(Bq _ w).alloc Nr _;by_cases k0:k=0
 ·subst k0;cases hn:(n==0) with
  | false=>
   go_enter Tryz.func139,Tryz.ntmps139;go_wp2;go_ret;exact⟨by rw[show Ap ⟨0,n,s⟩=false from(by unfold Ap;simp[hn])];rfl,hb0⟩
  | true=>
   have hn0:n=0:=by simpa using hn
   subst hn0;by_cases he:0<s.size
   ·have he':=Ax he;have HE:Hid (s.data.toList.isEmpty=false):=hid (by rw[<- Lib.toList_data];exact he');go_enter Tryz.func139,Tryz.ntmps139;go_wp2;go_ret;exact⟨by rw[show Ap ⟨0,0,s⟩=false from(by unfold Ap;simp[HE.out])];rfl,hb0⟩
   ·have he':=A9 he;have HE:Hid (s.data.toList.isEmpty=true):=hid (by rw[<- Lib.toList_data];exact he');go_enter Tryz.func139,Tryz.ntmps139;go_wp2;go_ret;exact⟨by rw[show Ap ⟨0,0,s⟩=true from(by unfold Ap;simp[HE.out])];rfl,hb0⟩
 by_cases k1:k=1
 ·subst k1;by_cases he:0<s.size
  ·have he':=Ax he;have HE:Hid (s.data.toList.isEmpty=false):=hid (by rw[<- Lib.toList_data];exact he');go_enter Tryz.func139,Tryz.ntmps139;go_wp2;go_ret;exact⟨by rw[show Ap ⟨1,n,s⟩=false from(by unfold Ap;simp[HE.out])];rfl,hb0⟩
  ·have he':=A9 he;have HE:Hid (s.data.toList.isEmpty=true):=hid (by rw[<- Lib.toList_data];exact he');cases hn:(n==0) with
   | true=>
    go_enter Tryz.func139,Tryz.ntmps139;go_wp2;go_ret;exact⟨by rw[show Ap ⟨1,n,s⟩=true from(by unfold Ap;simp[HE.out,hn])];rfl,hb0⟩
   | false=>
    go_enter Tryz.func139,Tryz.ntmps139;go_wp2;go_ret;exact⟨by rw[show Ap ⟨1,n,s⟩=(n==1) from(by unfold Ap;simp[HE.out,hn])];rfl,hb0⟩
 by_cases k2:k=2
 ·subst k2;by_cases he:0<s.size
  ·have he':=Ax he;have HE:Hid (s.data.toList.isEmpty=false):=hid (by rw[<- Lib.toList_data];exact he');go_enter Tryz.func139,Tryz.ntmps139;go_wp2;go_ret;exact⟨by rw[show Ap ⟨2,n,s⟩=false from(by unfold Ap;simp[HE.out])];rfl,hb0⟩
  ·have he':=A9 he;have HE:Hid (s.data.toList.isEmpty=true):=hid (by rw[<- Lib.toList_data];exact he');by_cases hn: -999999999999999<=n
   ·go_enter Tryz.func139,Tryz.ntmps139;go_wp2;go_ret;exact⟨by rw[show Ap ⟨2,n,s⟩=decide (n<=999999999999999) from(by unfold Ap;simp[HE.out,hn])];rfl,hb0⟩
   ·go_enter Tryz.func139,Tryz.ntmps139;go_wp2;go_ret;exact⟨by rw[show Ap ⟨2,n,s⟩=false from(by unfold Ap;simp[HE.out];omega)];rfl,hb0⟩
 by_cases k3:k=3
 ·subst k3;cases hn:(n==0) with
  | false=>
   go_enter Tryz.func139,Tryz.ntmps139;go_wp2;go_ret;exact⟨by rw[show Ap ⟨3,n,s⟩=false from(by unfold Ap;simp[hn])];rfl,hb0⟩
  | true=>
   have HN:=hid hn;go_enter Tryz.func139,Tryz.ntmps139;go_wp2_with fail;refine(B2 s _ hs (hT.below hb0)).mono ?_;rintro e w1 ⟨rfl,hb1⟩;go_wp2;go_ret;exact⟨by rw[show Ap ⟨3,n,s⟩=validD s.data.toList from(by unfold Ap;simp[HN.out])];rfl,hb0.trans (hb1.mono (by simp))⟩
 have e0:(k==0)=false:=by simpa using k0
 have e1:(k==1)=false:=by simpa using k1
 have e2:(k==2)=false:=by simpa using k2
 have e3:(k==3)=false:=by simpa using k3
 go_enter Tryz.func139,Tryz.ntmps139;go_wp2;go_ret;exact⟨by rw[show Ap ⟨k,n,s⟩=false from(by unfold Ap;simp[k0,k1,k2,k3])];rfl,hb0⟩
end
section
structure Pc where
 kind:Int
 str:List UInt8
def Tr.named:Tr->List UInt8->Tr
 | .mk k _ x ks ts,s=>.mk k ⟨s.toArray⟩ x ks ts
def Tr.kind:Tr->Int
 | .mk k _ _ _ _=>k
def Tr.kids:Tr->List Tr
 | .mk _ _ _ _ ts=>ts
def DW:Tr:=.mk 0 ⟨#[]⟩ A4 [] []
def LU (x:Sc):Tr:=.mk 0 ⟨#[]⟩ x [] []
def LJ (s:List UInt8):Tr:=.mk 3 ⟨s.toArray⟩ A4 [] []
def DZ (ts:List Tr):Tr:=.mk 1 ⟨#[]⟩ A4 [] ts
def DG (ks:List Sc) (ts:List Tr):Tr:=.mk 2 ⟨#[]⟩ A4 ks ts
def Ak:Tr->Nat
 | .mk _ _ _ _ ts=>deepTs ts+1
where deepTs:List Tr->Nat
 | []=>0
 | t::r=>max (Ak t) (deepTs r)
theorem PZ (t:Tr):1<=Ak t:=by cases t;unfold Ak;omega
theorem TL (t:Tr) (s:List UInt8):Ak (t.named s)=Ak t:=by cases t;unfold Tr.named Ak;rfl
theorem Yu (ts:List Tr):Ak (DZ ts)=Ak.deepTs ts+1:=by unfold DZ Ak;rfl
theorem Zn (ks:List Sc) (ts:List Tr):Ak (DG ks ts)=Ak.deepTs ts+1:=by unfold DG Ak;rfl
theorem Zy (x:Sc):Ak (LU x)=1:=by unfold LU Ak;rfl
theorem Yx (s:List UInt8):Ak (LJ s)=1:=by unfold LJ Ak;rfl
theorem PM:Ak DW=1:=by unfold DW Ak;rfl
def Bd (t:Pc):Sc×Int:=
 if t.kind=1 then (if (AM ⟨t.str.toArray⟩).2=0 then AM ⟨t.str.toArray⟩ else (A4,(AM ⟨t.str.toArray⟩).2))
 else if t.kind=2 then (if validD t.str then (⟨3,0,⟨t.str.toArray⟩⟩,0) else (A4,40)) else (A4,91)
def hk:List Pc->Int
 | []=>0
 | t::_=>t.kind
theorem Ah4 {l c:List Pc} (h:l≠[]):hk (l++c)=hk l:=by
 cases l with
 | nil=>exact absurd rfl h
 | cons t r=>rfl
inductive FR where
 | ok (t:Tr) (rest:List Pc)
 | bad (e:Int)
mutual
def Bl:Nat->Nat->List Pc->FR
 | 0,_,_=>.bad 91
 | n+1,d,l=>if 24<d then .bad 73 else
  match l with
  | []=>.bad 91
  | t::r=>
   if t.kind=3 then (if hk r=3\/hk r=4 then .bad 91 else match Bl n d r with
    | .ok v rest=>.ok (v.named t.str) rest
    | .bad e=>.bad e)
   else if t.kind=4 then .ok (LJ t.str) r
   else if t.kind=8 then Df n d r []
   else if t.kind=10 then CD n d r [] []
   else if (Bd t).2=0 then .ok (LU (Bd t).1) r else .bad (Bd t).2
def Df:Nat->Nat->List Pc->List Tr->FR
 | 0,_,_,_=>.bad 91
 | n+1,d,l,acc=>if hk l=9 then .ok (DZ acc) l.tail else
  match Bl n (d+1) l with
  | .bad e=>.bad e
  | .ok v rest=>if hk rest=7 then Df n d rest.tail (acc++[v]) else if hk rest=9 then .ok (DZ (acc++[v])) rest.tail else .bad 91
def CD:Nat->Nat->List Pc->List Sc->List Tr->FR
 | 0,_,_,_,_=>.bad 91
 | n+1,d,l,ks,ts=>if hk l=11 then .ok (DG ks ts) l.tail else
  match l with
  | []=>.bad 91
  | t::r=>
   if (Bd t).2≠0 then .bad (Bd t).2 else if hk r≠6 then .bad 91 else if 24<d+1 then .bad 73 else
   if hk r.tail=7 then CD n d r.tail.tail (ks++[(Bd t).1]) (ts++[DW]) else if hk r.tail=11 then .ok (DG (ks++[(Bd t).1]) (ts++[DW])) r.tail.tail else
   match Bl n (d+1) r.tail with
   | .bad e=>.bad e
   | .ok v rest=>if hk rest=7 then CD n d rest.tail (ks++[(Bd t).1]) (ts++[v]) else if hk rest=11 then .ok (DG (ks++[(Bd t).1]) (ts++[v])) rest.tail else .bad 91
end
mutual
inductive PV:List Pc->Tr->Prop
 | key (t:Pc) (h:(Bd t).2=0):PV [t] (LU (Bd t).1)
 | ali (t:Pc) (h:t.kind=4):PV [t] (LJ t.str)
 | nam (t:Pc) (p:List Pc) (v:Tr) (h:t.kind=3) (h2:hk p≠3) (h3:hk p≠4) (hp:PV p v):PV (t::p) (v.named t.str)
 | lst (t:Pc) (p:List Pc) (ts:List Tr) (h:t.kind=8) (hp:PI p ts):PV (t::p) (DZ ts)
 | dic (t:Pc) (p:List Pc) (ks:List Sc) (ts:List Tr) (h:t.kind=10) (hp:PD p ks ts):PV (t::p) (DG ks ts)
inductive PI:List Pc->List Tr->Prop
 | nil (c:Pc) (h:c.kind=9):PI [c] []
 | last (p:List Pc) (v:Tr) (c:Pc) (hp:PV p v) (h:c.kind=9):PI (p++[c]) [v]
 | cons (p:List Pc) (v:Tr) (m:Pc) (q:List Pc) (ts:List Tr) (hp:PV p v) (h:m.kind=7) (hq:PI q ts):PI (p++m::q) (v::ts)
inductive PD:List Pc->List Sc->List Tr->Prop
 | nil (c:Pc) (h:c.kind=11):PD [c] [] []
 | last (p:List Pc) (x:Sc) (v:Tr) (c:Pc) (hp:PP p x v) (h:c.kind=11):PD (p++[c]) [x] [v]
 | cons (p:List Pc) (x:Sc) (v:Tr) (m:Pc) (q:List Pc) (ks:List Sc) (ts:List Tr) (hp:PP p x v) (h:m.kind=7) (hq:PD q ks ts):PD (p++m::q) (x::ks) (v::ts)
inductive PP:List Pc->Sc->Tr->Prop
 | none (k c:Pc) (h:(Bd k).2=0) (hc:c.kind=6):PP [k,c] (Bd k).1 DW
 | some (k c:Pc) (p:List Pc) (v:Tr) (h:(Bd k).2=0) (hc:c.kind=6) (hp:PV p v):PP (k::c::p) (Bd k).1 v
end
theorem Abd {t:Pc} (h:(Bd t).2=0):t.kind=1\/t.kind=2:=by
 unfold Bd at h;by_cases h1:t.kind=1
 ·exact .inl h1
 ·rw[if_neg h1] at h;by_cases h2:t.kind=2
  ·exact .inr h2
  ·rw[if_neg h2] at h;cases h
theorem OT {p:List Pc} {v:Tr} (h:PV p v):p≠[]/\(hk p=1\/hk p=2\/hk p=4\/hk p=3\/hk p=8\/hk p=10):=by
 cases h with
 | key t h=>exact⟨by simp,by rcases Abd h with k | k<;>simp[hk,k]⟩
 | ali t h=>exact⟨by simp,by simp[hk,h]⟩
 | nam t p v h _ _ _=>exact⟨by simp,by simp[hk,h]⟩
 | lst t p ts h _=>exact⟨by simp,by simp[hk,h]⟩
 | dic t p ks ts h _=>exact⟨by simp,by simp[hk,h]⟩
theorem Ah7 {p:List Pc} {ts:List Tr} (h:PI p ts):p≠[]:=by cases h<;>simp
theorem Agq {p:List Pc} {ks:List Sc} {ts:List Tr} (h:PD p ks ts):p≠[]:=by cases h<;>simp
theorem ZI {p:List Pc} {x:Sc} {v:Tr} (h:PP p x v):p≠[]:=by cases h<;>simp
def SV (n:Nat):Prop:=∀ d l t rest,Bl n d l=.ok t rest->∃ p,l=p++rest/\PV p t/\d+Ak t<=25
def SI (n:Nat):Prop:=∀ d l acc t rest,Df n d l acc=.ok t rest->∃ p ts,l=p++rest/\PI p ts/\t=DZ (acc++ts)/\(ts≠[]->d+1+Ak.deepTs ts<=25)
def SD (n:Nat):Prop:=∀ d l ks0 ts0 t rest,CD n d l ks0 ts0=.ok t rest->∃ p ks ts,l=p++rest/\PD p ks ts/\t=DG (ks0++ks) (ts0++ts)/\(ts≠[]->d+1+Ak.deepTs ts<=25)
theorem Co {l:List Pc} {k:Int} (h:hk l=k) (hk0:k≠0):∃ c,c.kind=k/\l=c::l.tail:=by
 cases l with
 | nil=>exact absurd h.symm hk0
 | cons c r=>exact⟨c,h,rfl⟩
theorem sound:∀ n,SV n/\SI n/\SD n
 | 0=>⟨fun d l t rest h=>by simp[Bl] at h,fun d l acc t rest h=>by simp[Df] at h,fun d l ks ts t rest h=>by simp[CD] at h⟩
 | n+1=>by
  obtain⟨hV,hI,hD⟩:=sound n;refine⟨fun d l t rest h=>?_,fun d l acc t rest h=>?_,fun d l ks0 ts0 t rest h=>?_⟩
  ·unfold Bl at h;split at h
   ·cases h
   ·rename_i hd;cases l with
    | nil=>cases h
    | cons a r=>
     simp only at h;split at h
     ·rename_i h3;split at h
      ·cases h
      ·rename_i hn;cases hv:Bl n d r with
       | bad e=>rw[hv] at h;cases h
       | ok v rest'=>
        rw[hv] at h;injection h with h1 h2;subst h1 h2;obtain⟨p,hp,hpv,hdp⟩:=hV _ _ _ _ hv;have hne:=(OT hpv).1;rw[hp,Ah4 hne] at hn;exact⟨a::p,by rw[hp];rfl,.nam a p v h3 (fun k=>hn (.inl k)) (fun k=>hn (.inr k)) hpv,by rw[TL];exact hdp⟩
     ·split at h
      ·rename_i h4;injection h with h1 h2;subst h1 h2;exact⟨[a],rfl,.ali a h4,by rw[Yx];omega⟩
      ·split at h
       ·rename_i h8;obtain⟨p,ts,hp,hpi,ht,hdp⟩:=hI _ _ _ _ _ h;subst ht;refine⟨a::p,by rw[hp];rfl,.lst a p ts h8 hpi,?_⟩;rw[List.nil_append,Yu];by_cases hts:ts=[]
        ·subst hts;unfold Ak.deepTs;omega
        ·have:=hdp hts;omega
       ·split at h
        ·rename_i h10;obtain⟨p,ks,ts,hp,hpi,ht,hdp⟩:=hD _ _ _ _ _ _ h;subst ht;refine⟨a::p,by rw[hp];rfl,.dic a p ks ts h10 hpi,?_⟩;rw[List.nil_append,List.nil_append,Zn];by_cases hts:ts=[]
         ·subst hts;unfold Ak.deepTs;omega
         ·have:=hdp hts;omega
        ·split at h
         ·rename_i hk;injection h with h1 h2;subst h1 h2;exact⟨[a],rfl,.key a hk,by rw[Zy];omega⟩
         ·cases h
  ·unfold Df at h;split at h
   ·rename_i h9;injection h with h1 h2;subst h1 h2;obtain⟨c,hc,hl⟩:=Co h9 (by decide);exact⟨[c],[],by rw[hl];rfl,.nil c hc,by rw[List.append_nil],fun k=>absurd rfl k⟩
   ·cases hv:Bl n (d+1) l with
    | bad e=>rw[hv] at h;cases h
    | ok v rest'=>
     rw[hv] at h;simp only at h;obtain⟨p,hp,hpv,hdp⟩:=hV _ _ _ _ hv;split at h
     ·rename_i h7;obtain⟨m,hm,hr⟩:=Co h7 (by decide);obtain⟨q,ts,hq,hqi,ht,hdq⟩:=hI _ _ _ _ _ h;refine⟨p++m::q,v::ts,by rw[hp,hr,hq];simp,.cons p v m q ts hpv hm hqi,by rw[ht,List.append_assoc];rfl,fun _=>?_⟩;unfold Ak.deepTs;by_cases hts:ts=[]
      ·subst hts;unfold Ak.deepTs;omega
      ·have:=hdq hts;omega
     ·split at h
      ·rename_i h9;obtain⟨c,hc,hr⟩:=Co h9 (by decide);injection h with h1 h2;subst h1 h2;refine⟨p++[c],[v],by rw[hp,hr];simp,.last p v c hpv hc,rfl,fun _=>?_⟩;unfold Ak.deepTs Ak.deepTs;omega
      ·cases h
  ·unfold CD at h;split at h
   ·rename_i h11;injection h with h1 h2;subst h1 h2;obtain⟨c,hc,hl⟩:=Co h11 (by decide);exact⟨[c],[],[],by rw[hl];rfl,.nil c hc,by rw[List.append_nil,List.append_nil],fun k=>absurd rfl k⟩
   ·cases l with
    | nil=>cases h
    | cons a r=>
     simp only at h;split at h
     ·cases h
     ·rename_i hkk;have hka:(Bd a).2=0:=Decidable.not_not.1 hkk;split at h
      ·cases h
      ·rename_i h6;have h6':hk r=6:=Decidable.not_not.1 h6;obtain⟨c,hc,hr⟩:=Co h6' (by decide);split at h
       ·cases h
       ·rename_i hdd;split at h
        ·rename_i h7;obtain⟨m,hm,hr2⟩:=Co h7 (by decide);obtain⟨q,ks,ts,hq,hqd,ht,hdq⟩:=hD _ _ _ _ _ _ h;refine⟨[a,c]++m::q,(Bd a).1::ks,DW::ts,by rw[hr,hr2,hq];simp,.cons _ _ _ m q ks ts (.none a c hka hc) hm hqd,by rw[ht,List.append_assoc,List.append_assoc];rfl,fun _=>?_⟩;unfold Ak.deepTs;rw[PM];by_cases hts:ts=[]
         ·subst hts;unfold Ak.deepTs;omega
         ·have:=hdq hts;omega
        ·split at h
         ·rename_i h11;obtain⟨e,he,hr2⟩:=Co h11 (by decide);injection h with h1 h2;subst h1 h2;refine⟨[a,c]++[e],[(Bd a).1],[DW],by rw[hr,hr2];simp,.last _ _ _ e (.none a c hka hc) he,rfl,fun _=>?_⟩;unfold Ak.deepTs Ak.deepTs;rw[PM];omega
         ·cases hv:Bl n (d+1) r.tail with
          | bad e=>rw[hv] at h;cases h
          | ok v rest'=>
           rw[hv] at h;simp only at h;obtain⟨p,hp,hpv,hdp⟩:=hV _ _ _ _ hv;split at h
           ·rename_i h7;obtain⟨m,hm,hr2⟩:=Co h7 (by decide);obtain⟨q,ks,ts,hq,hqd,ht,hdq⟩:=hD _ _ _ _ _ _ h;refine⟨(a::c::p)++m::q,(Bd a).1::ks,v::ts,by rw[hr,hp,hr2,hq];simp,.cons _ _ _ m q ks ts (.some a c p v hka hc hpv) hm hqd,by rw[ht,List.append_assoc,List.append_assoc];rfl,fun _=>?_⟩;unfold Ak.deepTs;by_cases hts:ts=[]
            ·subst hts;unfold Ak.deepTs;omega
            ·have:=hdq hts;omega
           ·split at h
            ·rename_i h11;obtain⟨e,he,hr2⟩:=Co h11 (by decide);injection h with h1 h2;subst h1 h2;refine⟨(a::c::p)++[e],[(Bd a).1],[v],by rw[hr,hp,hr2];simp,.last _ _ _ e (.some a c p v hka hc hpv) he,rfl,fun _=>?_⟩;unfold Ak.deepTs Ak.deepTs;omega
            ·cases h
theorem Cg (v:Tr) (ts:List Tr):Ak.deepTs (v::ts)=max (Ak v) (Ak.deepTs ts):=by rw[Ak.deepTs]
theorem Hx:Ak.deepTs []=0:=by rw[Ak.deepTs]
theorem Abb {n d:Nat} {l:List Pc} {t:Tr} {rest:List Pc} (h:Bl n d l=.ok t rest):∃ p,l=p++rest/\PV p t/\d+Ak t<=25:=(sound n).1 d l t rest h
def Up (l:List Pc):FR:=Bl (2*l.length+2) 1 l
def D9 (l:List Pc):Tr×Int:=match Up l with
 | .ok t []=>(t,0)
 | .ok _ (_::_)=>(DW,91)
 | .bad e=>(DW,e)
theorem Ur:∀ n,(∀ d l e,Bl n d l=.bad e->e≠0)/\(∀ d l acc e,Df n d l acc=.bad e->e≠0)/\(∀ d l ks ts e,CD n d l ks ts=.bad e->e≠0)
 | 0=>⟨fun d l e h=>by rw[Bl] at h;injection h with h;omega,fun d l acc e h=>by rw[Df] at h;injection h with h;omega,fun d l ks ts e h=>by rw[CD] at h;injection h with h;omega⟩
 | n+1=>by
  obtain⟨hV,hI,hD⟩:=Ur n;refine⟨fun d l e h=>?_,fun d l acc e h=>?_,fun d l ks ts e h=>?_⟩
  ·unfold Bl at h;split at h
   ·injection h with h;omega
   ·cases l with
    | nil=>injection h with h;omega
    | cons t r=>
     try simp only at h
     split at h
     ·split at h
      ·injection h with h;omega
      ·cases hv:Bl n d r with
       | bad e2=>rw[hv] at h;injection h with h;subst h;exact hV _ _ _ hv
       | ok v rest=>rw[hv] at h;cases h
     ·split at h
      ·cases h
      ·split at h
       ·exact hI _ _ _ _ h
       ·split at h
        ·exact hD _ _ _ _ _ h
        ·split at h
         ·cases h
         ·injection h with h;subst h;assumption
  ·unfold Df at h;split at h
   ·cases h
   ·cases hv:Bl n (d+1) l with
    | bad e2=>rw[hv] at h;injection h with h;subst h;exact hV _ _ _ hv
    | ok v rest=>
     rw[hv] at h;try simp only at h
     split at h
     ·exact hI _ _ _ _ h
     ·split at h
      ·cases h
      ·injection h with h;omega
  ·unfold CD at h;split at h
   ·cases h
   ·cases l with
    | nil=>injection h with h;omega
    | cons t r=>
     try simp only at h
     split at h
     ·injection h with h;subst h;assumption
     ·split at h
      ·injection h with h;omega
      ·split at h
       ·injection h with h;omega
       ·split at h
        ·exact hD _ _ _ _ _ h
        ·split at h
         ·cases h
         ·cases hv:Bl n (d+1) r.tail with
          | bad e2=>rw[hv] at h;injection h with h;subst h;exact hV _ _ _ hv
          | ok v rest=>
           rw[hv] at h;try simp only at h
           split at h
           ·exact hD _ _ _ _ _ h
           ·split at h
            ·cases h
            ·injection h with h;omega
theorem Mu {l:List Pc} {t:Tr} (h:D9 l=(t,0)):PV l t/\Ak t<=24:=by
 unfold D9 at h;cases hv:Up l with
 | bad e=>
  rw[hv] at h;have he:e=0:=congrArg Prod.snd h;exact absurd he ((Ur _).1 _ _ _ hv)
 | ok v rest=>
  rw[hv] at h;cases rest with
  | cons a r=>have he:(91:Int)=0:=congrArg Prod.snd h;omega
  | nil=>
   obtain⟨p,hp,hpv,hd⟩:=Abb hv;rw[List.append_nil] at hp;have:v=t:=congrArg Prod.fst h;subst this hp;exact⟨hpv,by omega⟩
end
section
def okN (c:UInt8):Bool:=AX c||Av [46,101,69,43,45,95] c
def YB (l:List UInt8):Bool:= !l.isEmpty&&(AX (l.getD 0 0)&&l.all okN)
def UF (l:List UInt8):Bool:= !l.isEmpty&&Av [43,45] (l.getD 0 0)
def Af6 (l:List UInt8):Bool:= !l.isEmpty&&l.getD 0 0==46
def HW (l:List UInt8):List UInt8:=if UF l then l.tail else l
def TH (l:List UInt8):List UInt8:=if Af6 l then l.tail else l
def OD (l:List UInt8):Bool:=YB (TH (HW l))
theorem Xb {p:UInt8->Bool} {l:List UInt8} {k:Nat} (h:k<l.length):(l.take (k+1)).all p=((l.take k).all p&&p (l.getD k 0)):=by
 rw[List.take_succ_eq_append_getElem h,List.all_append,List.getD,List.getElem?_eq_getElem h];simp
def C5 (l:List UInt8):Int:=l.foldl (fun n c=>10*n+((c.toNat:Int) - 48)) 0
theorem XN {l:List UInt8} {k:Nat} (h:k<l.length):C5 (l.take (k+1))=10*C5 (l.take k)+(((l.getD k 0).toNat:Int) - 48):=by
 unfold C5;rw[List.take_succ_eq_append_getElem h,List.foldl_append,List.getD,List.getElem?_eq_getElem h];rfl
theorem Jn (l:List UInt8) (c:UInt8):C5 (l++[c])=10*C5 l+((c.toNat:Int) - 48):=by
 unfold C5;rw[List.foldl_append];rfl
theorem S8 {c:UInt8} (h:AX c=true):48<=(c.toNat:Int)/\(c.toNat:Int)<=57:=by
 unfold AX at h;simp at h;omega
theorem P5 (l:List UInt8):∀ k,k<=l.length->(l.take k).all AX=true->0<=C5 (l.take k)/\C5 (l.take k)<10 ^ k
 | 0,_,_=>by simp[C5]
 | k+1,hk,h=>by
  rw[Xb (by omega),Bool.and_eq_true] at h;have hi:=P5 l k (by omega) h.1;have hc:=S8 h.2;rw[XN (by omega),Int.pow_succ];omega
theorem V9 (l:List UInt8) (h:l.all AX=true):0<=C5 l/\C5 l<10 ^ l.length:=by
 have:=P5 l l.length Nr (by rw[List.take_length];exact h)
 rwa [List.take_length] at this
theorem Xh {l:List UInt8} (hl:l.length<=15) (h:l.all AX=true):0<=C5 l/\C5 l<=999999999999999:=by
 have hb:=V9 _ h;have hp:(10:Int) ^ l.length<=10 ^ 15:=by
  have:(10:Nat) ^ l.length<=10 ^ 15:=Nat.pow_le_pow_right (by omega) hl
  exact_mod_cast this
 omega
def JH (l:List UInt8):Bool:= !l.isEmpty&&l.getD 0 0==45
def digitsOf (l:List UInt8):List UInt8:=if JH l then l.tail else l
def L3 (l:List UInt8):Bool:=(digitsOf l).isEmpty||(decide (15<(digitsOf l).length)||((digitsOf l).getD 0 0==48&& !(l==[48])))
def Kx (l:List UInt8):Int×Bool:=
 if L3 l then (0,false) else if (digitsOf l).all AX then (if JH l then -(C5 (digitsOf l)) else C5 (digitsOf l),true) else (0,false)
end
section
def KY (l:List UInt8):Option (Sc×Int):=
 if l.isEmpty then F (A4,0)
 else if l==[110,117,108,108] then F (A4,0)
 else if l==[126] then F (A4,0)
 else if l==[116,114,117,101] then F (⟨1,1,⟨#[]⟩⟩,0)
 else if l==[102,97,108,115,101] then F (⟨1,0,⟨#[]⟩⟩,0)
 else if l==[46,105,110,102] then F (A4,50)
 else if l==[43,46,105,110,102] then F (A4,50)
 else if l==[45,46,105,110,102] then F (A4,50)
 else if l==[46,110,97,110] then F (A4,50)
 else O
def Ih (s:ByteArray):Sc×Int:=
 if !OD s.data.toList then (⟨3,0,s⟩,0) else if !(Kx s.data.toList).2 then (A4,50) else (⟨2,(Kx s.data.toList).1,⟨#[]⟩⟩,0)
def Mm (s:ByteArray):Sc×Int:=
 if !s.data.toList.isEmpty&& !Xi s.data.toList false then (A4,51) else (KY s.data.toList).getD (Ih s)
end
end Go.Proofs.YtdpppepmkeinaaaGreatDoor
