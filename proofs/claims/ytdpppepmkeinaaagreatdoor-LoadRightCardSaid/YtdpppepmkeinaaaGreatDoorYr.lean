/- What is proved: a part of the walk of the program and of its plain laws; no condition beside those that each theorem names. -/
import Derived.Test.YtdpppepmkeinaaaGreatDoorYq
import Derived.Test.YtdpppepmkeinaaaGreatDoorYa
namespace Go.Proofs.YtdpppepmkeinaaaGreatDoor
open Go Go.RowKit Go.Lib
open Go.Value renaming int->I,string->Q,slice->Z
open Go.IntKind renaming i64->J
open Option renaming none->O,some->F
open _root_.Go renaming World->Y
set_option linter.unusedSimpArgs false
set_option linter.unusedVariables false
set_option linter.unusedSectionVars false
section
set_option maxRecDepth 100000
section
variable {P:Program} {Fz:Fence} {Qr:Exit->Act->Y->Prop} {n:Nat} {ds:List Deferred} {k:List Je} {l:Env} {C:Nat->Prop} {w0:Y} {A A' B:List Aj} {β:Type} {f:β->Aj}
theorem V.us (h:V P Fz Qr n ds k (Mem C w0 (B++A')) l) (hk:Pk (Go.Proofs.YtdpppepmkeinaaaGreatDoor.star B) A A':=by(repeat (first | exact Pk.hd | apply Pk.tl));first | done | fail):V P Fz Qr n ds k (Mem C w0 A) l:=V.pre (V.star h) (fun w hw=>hw.pk hk)
theorem V.ux (h:∀ x,V P Fz Qr n ds k (Mem C w0 (f x::A')) l) (hk:Pk (Hf f) A A':=by(repeat (first | exact Pk.hd | apply Pk.tl));first | done | fail):V P Fz Qr n ds k (Mem C w0 A) l:=V.pre (V.ex h) (fun w hw=>hw.pk hk)
end
section
variable {P:Program} {n:Nat} {ds:List Deferred} {l:Env} {t:Nat} {ty:TypeId} {ps:String} {af:Array Edge} {gd:Option (Nat×Bool)} {C:Nat->Prop} {w0:Y} {A Z0:List Aj}
theorem D.cq {ι:Type} {v:ι->Value} {X:Aj} {Qz:(Nat->Prop)->Prop} {X':ι->Aj} {f:FuncId} {fn:Operand} {fs cs:Array Value} {args:List Operand} {ts:Array TypeId} {vs aa:List Value}
  (hc:∀ w,Mem C w0 A w->BT P f aa.toArray w X Qz v X') (hq:∀ Fz:Nat->Prop,(∀ b,Fz b->w0.heap.size<=b\/C b)->Qz Fz) (hk:Pk X A Z0:=by(repeat (first | exact Pk.hd | apply Pk.tl));first | done | fail)
  (hf:ev l fn=F (.func (.func f) fs cs):=by rfl) (hs:evs l args=F vs:=by rfl) (he:fs.toList++(vs++cs.toList)=aa:=by rfl) (hr:∀ args w,(callFunc f args).run P w=.ok (.enter f args) w:=by intro args w;simp;first | done | fail):
  Does P n ds ⟨F t,.call {callee:=.value fn,args:=args.toArray,argTypes:=ts},ty,ps,af,gd⟩ (Mem C w0 A) l (fun x=>Mem C w0 (X' x::Z0)) (fun x=>(t,v x)::l):=fun a w K' ha hd hw hk'=>by
 obtain⟨Fz,h1,h2,h3⟩:=hw.own hk;unfold Eo;rw[E7 ha hf hs hr he];exact(hc w hw Fz h1 (fun b hb=>(h2 b hb).1) (hq Fz fun b hb=>(h2 b hb).2)).mono fun e w' ⟨x,he,F',hx,hf,hi⟩=>⟨_,he,hk' x _ _ (h3 _ F' w' hi hx hf) (hd _)⟩
theorem D.c {v:Value} {f:FuncId} {fn:Operand} {fs cs:Array Value} {args:List Operand} {ts:Array TypeId} {vs aa:List Value}
  (hc:∀ w,Mem C w0 A w->Calls P f aa.toArray w fun e w'=>e=.returned v/\Below w.heap.size w w')
  (hf:ev l fn=F (.func (.func f) fs cs):=by rfl) (hs:evs l args=F vs:=by rfl) (he:fs.toList++(vs++cs.toList)=aa:=by rfl) (hr:∀ args w,(callFunc f args).run P w=.ok (.enter f args) w:=by intro args w;simp;first | done | fail):
  Does P n ds ⟨F t,.call {callee:=.value fn,args:=args.toArray,argTypes:=ts},ty,ps,af,gd⟩ (Mem C w0 A) l (fun _:Unit=>Mem C w0 A) (fun _=>(t,v)::l):=fun a w K' ha hd hw hk'=>by
 unfold Eo;rw[E7 ha hf hs hr he];exact(hc w hw).mono (by rintro e w' ⟨rfl,hb⟩;exact⟨_,rfl,hk' () _ _ (hw.below hb) (hd _)⟩)
end
def MC (no e:Int):Value:=.iface 214 (.agg #[I J no,I J e])
def Qt (col:Int):List Cn->Value
 | []=>.nilIface
 | x::_=>if x.1.col<col then .nilIface else if col<x.1.col then MC x.1.no 92 else MC x.1.no 93
theorem Qk (rb:Nat) (es:List Cn) (col:Int) (C:Nat->Prop) (w0 w:Y) (Zz:List Aj) (h:Mem C w0 Zz w) (hx:Dq rb es∈Zz) (hn:es.length<=1000000):
  Calls Tryz.prog 192 #[.pointer (F ⟨rb,0,O⟩),I J col] w fun e w'=>e=.returned (Qt col es)/\Below w.heap.size w w':=by
 refine V.enter _ Tryz.func192 (Mem.start (C:=Ao) w) ?_;cases es with
 | nil=>
  repeat refine W ?_
  refine R.c (fun w' h'=>Ep rb C w0 w' Zz (h.below h'.1.below) hx) ?_
  repeat (first | refine W ?_ | refine R.new fun _ _=>?_)
  refine V.end fun w' h'=>?_;exact⟨rfl,h'.1.below⟩
 | cons x r=>
  obtain⟨⟨no,cl,l⟩,A,c⟩:=x
  repeat refine W ?_
  refine R.c (fun w' h'=>DA rb _ r C w0 w' Zz (h.below h'.1.below) hx hn) ?_
  repeat (first | refine W ?_ | refine R.new fun _ _=>?_)
  unfold Qt;dsimp only
  refine V.ifp (fun h=>?_) (fun h=>?_)
  ·rw[if_pos h]
   repeat refine W ?_
   refine V.end fun w' h'=>?_;exact⟨rfl,h'.1.below⟩
  ·rw[if_neg h]
   repeat refine W ?_
   refine V.ifp (fun h2=>?_) (fun h2=>?_)
   ·rw[if_pos h2]
    repeat refine W ?_
    refine R.c (fun w' h'=>Bk no cl A l.length c 92 w') ?_
    repeat refine W ?_
    refine V.end fun w' h'=>?_;exact⟨rfl,h'.1.below⟩
   ·rw[if_neg h2]
    repeat refine W ?_
    refine R.c (fun w' h'=>Bk no cl A l.length c 93 w') ?_
    repeat refine W ?_
    refine V.end fun w' h'=>?_;exact⟨rfl,h'.1.below⟩
structure Gg where
 w0:Y
 wB:Y
 g:Nat->Prop
 tabs:Bf w0
 err:Ea.ErrC w0
 bel:Below w0.heap.size w0 wB
 gl:∀ b,g b->w0.heap.size<=b
def Blw (Wo:Gg) (w:Y):Prop:=AI Wo.g Wo.wB w
def BnW (Wo:Gg) (Fz:Nat->Prop):Prop:=∀ b,Fz b->Wo.wB.heap.size<=b\/Wo.g b
section
variable {Wo:Gg} {w w':Y} {Fz:Nat->Prop}
theorem Blw.ext (h:Blw Wo w) (hF:BnW Wo Fz) (hx:AI Fz w w'):Blw Wo w':=AI.trans h hx (fun x hlt hf=>(hF x hf).elim (fun h=>by omega) id)
theorem Blw.of (h:Blw Wo w) (hF:BnW Wo Fz) (G:Nat->Prop) (hG:∀ b,G b->w.heap.size<=b\/Fz b):BnW Wo G:=fun b hb=>(hG b hb).elim (fun e=>.inl (Nat.le_trans h.size e)) (hF b)
theorem Blw.base (h:Blw Wo w):Below Wo.w0.heap.size Wo.w0 w:=⟨h.os.trans Wo.bel.os,h.tape.trans Wo.bel.tape,h.output.trans Wo.bel.output,Nat.le_trans Wo.bel.size h.size,fun k hk=>(h.block k (Nat.lt_of_lt_of_le hk Wo.bel.size) (fun e=>by have:=Wo.gl k e;omega)).trans (Wo.bel.block k hk)⟩
theorem Blw.tabs (h:Blw Wo w):Bf w:=Wo.tabs.below h.base
theorem Blw.err (h:Blw Wo w):Ea.ErrC w:=Wo.err.to (AI.of_below (C:=Ao) h.base) (fun e=>e)
end
def Yz (Wo:Gg) (b:Nat):Prop:=b<Wo.wB.heap.size/\¬Wo.g b
structure EpP (Wo:Gg) (x:Cn):Prop where
 tks:Fx Wo.wB (Yz Wo) x.2.1 x.1.l
 len:x.1.l.length<=1000000
 small:∀ t∈x.1.l,t.str.length<=1000000
 cap:x.1.l.length<=x.2.2
 g:GdN x.1
theorem Blw.cs {Wo:Gg} {w:Y} (h:Blw Wo w) {b o:Nat} {vs:List Value} (hc:Cs Wo.wB b o vs) (hb:Yz Wo b):Cs w b o vs:=fun j u hj=>h.cell (hc j u hj) hb.2
theorem Yz.not {Wo:Gg} {Fz:Nat->Prop} {b:Nat} (hb:Yz Wo b) (hF:BnW Wo Fz):¬Fz b:=fun e=>(hF b e).elim (fun h=>by have:=hb.1;omega) hb.2
theorem Blw.tks {Wo:Gg} {w:Y} (h:Blw Wo w) {A:Option Addr} {l:List BX} (ht:Fx Wo.wB (Yz Wo) A l):Fx w (fun b=>b<w.heap.size) A l:=ht.to fun b o v hb hv=>⟨h.cell hv hb.2,Nat.lt_of_lt_of_le hb.1 h.size⟩
theorem Blw.rd {Wo:Gg} {w:Y} (h:Blw Wo w) {A:Option Addr} {l:List BX} (ht:Fx Wo.wB (Yz Wo) A l) (hl:l.length<=1000000) (hs:∀ t∈l,t.str.length<=1000000):M5 w A l:=⟨h.tks ht,hl,hs,h.tabs⟩
def FM (Wo:Gg) (es:List Cn):Prop:=∀ x∈es,EpP Wo x
theorem FM.tl {Wo:Gg} {x:Cn} {r:List Cn} (h:FM Wo (x::r)):FM Wo r:=fun y hy=>h y (List.mem_cons_of_mem _ hy)
def XU:BR->Value
 | .bad no e=>MC no e
 | _=>.nilIface
def brV (r:BR) (y:TY):Value:=.tuple #[.agg (As y).toArray,XU r]
def Sj (Wo:Gg) (rb:Nat) (r:BR) (x:TY×List Cn):Aj:=match r with
 | .ok t rest=>star [Dq rb x.2,Aq (As x.1) t,pr (x.2.map (·.1)=rest/\FM Wo x.2)]
 | .bad _ _=>star [Dq rb x.2,pr (x.2.length<=1000000)]
 | .out=>pr False
def BkC (Wo:Gg) (es:List Cn) (f:FuncId) (aa:List Value) (res:BR):Prop:=∀ (rb:Nat) (w:Y),Blw Wo w->BT Tryz.prog f (Value.pointer (F ⟨rb,0,O⟩)::aa).toArray w (Dq rb es) (BnW Wo) (fun x:TY×List Cn=>brV res x.1) (Sj Wo rb res)
section
variable {Wo:Gg} {C Fz:Nat->Prop} {w0 w w':Y} {Zz:List Aj} {rb:Nat} {es:List Cn} {y:TY} {t:Tr} {rest:List En} {no e:Int}
theorem Np (h:Mem Fz w [Dq rb es,Aq (As y) t] w') (hp:es.map (·.1)=rest/\FM Wo es):∃ F':Nat->Prop,AI Fz w w'/\(∀ b,F' b->b<w'.heap.size/\(Fz b\/w.heap.size<=b))/\(Sj Wo rb (.ok t rest) (y,es)).is F' w':=
 Mem.toW (Mem.toStar (B:=[_,_,_]) (A:=[]) ((h.pr (p:=es.map (·.1)=rest/\FM Wo es) hp).sel))
theorem Dv (h:Mem Fz w [Dq rb es] w') (hp:es.length<=1000000):∃ F':Nat->Prop,AI Fz w w'/\(∀ b,F' b->b<w'.heap.size/\(Fz b\/w.heap.size<=b))/\(Sj Wo rb (.bad no e) (y,es)).is F' w':=
 Mem.toW (Mem.toStar (B:=[_,_]) (A:=[]) ((h.pr (p:=es.length<=1000000) hp).sel))
end
section
variable {P:Program} {n:Nat} {ds:List Deferred} {k:List Je} {l:Env} {fn:Func} {R:Ending->Y->Prop} {C:Nat->Prop} {w0:Y} {A A':List Aj} {vs cs:List Value} {x b:Nat} {ty bt:TypeId} {rs:List ResultVar}
theorem V.eA (hR:∀ w,Mem C w0 A' w->R (.returned (one (.agg cs.toArray::vs))) w) (hf:fn.results.toList=.cell x ty::rs:=by rfl) (hx:lk l x=F (.pointer (F ⟨b,0,O⟩)):=by rfl) (hm:Marks ds A A':=by repeat (first | exact Marks.nil | (apply Marks.cons;(repeat (first | exact Dt.hd | apply Dt.tl))))) (hb:blk b cs bt∈A':=by(repeat (first | exact List.Mem.head _ | apply List.Mem.tail));first | done | fail) (ht:∀ w,(isAgg ty).run P w=.ok true w:=by intro w;kernel_rfl) (hs:∀ w,(sizeOf ty).run P w=.ok cs.length w:=by intro w;simp;try rfl)
  (hr:RV P l A' rs vs:=by repeat (first | exact RV.nil | (apply RV.tmp;rfl))) (h:G8 400 O k=.ret\/G8 400 O k=.fin:=by first | exact .inl rfl | exact .inr rfl):V P Fence.wide (bodyPostM Fence.wide 0 P fn R) n ds k (Mem C w0 A) l:=
 V.end hR h hm (by rw[hf];exact .agg hx hb ht hs hr)
end
end
section
set_option maxHeartbeats 16000000
set_option maxRecDepth 100000
section
variable {P:Program} {n:Nat} {ds:List Deferred} {l:Env} {t:Nat} {ty:TypeId} {ps:String} {af:Array Edge} {gd:Option (Nat×Bool)} {C:Nat->Prop} {w0:Y} {A:List Aj}
theorem D.y {lp:Nat} {fn:Operand} {args:List Operand} {ts:Array TypeId} {vs:List Value} {Jz J' Jx:Aj} {A0:List Aj} (hY:OP P lp vs.toArray w0 C Jz J' Jx) (hf:ev l fn=F (.func (.yield lp) #[] #[]):=by rfl) (hs:evs l args=F vs:=by rfl) (hk:Pk Jz A A0:=by(repeat (first | exact Pk.hd | apply Pk.tl));first | done | fail):
  Does P n ds ⟨F t,.call {callee:=.value fn,args:=args.toArray,argTypes:=ts},ty,ps,af,gd⟩ (Mem C w0 A) l (fun x:Bool=>Mem C w0 ((bif x then J' else Jx)::A0)) (fun x=>(t,.bool x)::l):=fun a w K' ha hd hw hk'=>by
 have h0:=hw.pk hk;obtain⟨F0,e1,e2,e3⟩:=h0.2;obtain⟨f,tm,asg,bd,hr,hrd⟩:=hY w F0 h0.1 e1 (fun b hb=>e2 b hb);have h1:(args.toArray).map a.eval=vs.toArray:=by rw[List.map_toArray,(ha.evs _ _ hs).2]
 unfold Eo;have:(execOp a.eval ⟨F t,.call {callee:=.value fn,args:=args.toArray,argTypes:=ts},ty,ps,af,gd⟩).run P w=.ok (.round lp f tm asg bd) w:=by
  simp[execOp,resolve,Deferred.ofValue,invoke,h1,ha.ev hf,Sem.run_bind,pure,hr]
 rw[this];refine RoundIn.mono hrd fun e w' he=>?_;obtain⟨hx,F',hF',hc⟩:=he;have fin:∀ X:Aj,X.is F' w'->Mem C w0 (X::A0) w':=fun X hX=>by
  refine⟨h0.1.trans hx (fun b hb hf=>(e2 b hf).2.elim (fun h=>by omega) id),F',hX,fun b hb=>⟨(hF' b hb).1,(hF' b hb).2.elim (fun h=>(e2 b h).2) (fun h=>.inl (Nat.le_trans h0.1.size h))⟩,e3.mono (fun b hb=>⟨⟨Nat.lt_of_lt_of_le hb.1.1 hx.size,hb.1.2⟩,fun hf=>(hF' b hf).2.elim hb.2 (fun h=>by have:=hb.1.1;omega)⟩) (fun b hb=>hx.block b hb.1.1 hb.2)⟩
 rcases hc with ⟨rfl,hc⟩ | ⟨rfl,hc⟩
 ·exact⟨_,rfl,hk' true _ w' (fin _ hc) (hd _)⟩
 ·exact⟨_,rfl,hk' false _ w' (fin _ hc) (hd _)⟩
end
theorem Ai2 (v:Value) (w:Y):(Go.method 587 292 v "sigillary/block.isSame").run Tryz.prog w=.ok (340,v) w:=by kernel_rfl
theorem Ajk (v:Value) (w:Y):(nilAhead 587 292 v "sigillary/block.isSame").run Tryz.prog w=.ok (F false) w:=by kernel_rfl
theorem Ajy (v:Value) (w:Y):(Go.method 587 293 v "sigillary/block.isSame").run Tryz.prog w=.ok (341,v) w:=by kernel_rfl
theorem Ajc (v:Value) (w:Y):(nilAhead 587 293 v "sigillary/block.isSame").run Tryz.prog w=.ok (F false) w:=by kernel_rfl
theorem WR (g:Bg) (w:Y):Calls Tryz.prog 340 #[.agg #[],Pw g] w fun e w'=>e=.returned (.bool (decide (g=.dash)))/\Below w.heap.size w w':=by
 refine V.enter _ Tryz.func340 (Mem.start (C:=Ao) w) ?_;cases g
 all_goals
  unfold Pw
  repeat (first | refine W ?_ | refine R.new fun _ _=>?_)
  refine V.end fun w' h'=>?_;exact⟨rfl,h'.1.below⟩
theorem WM (g:Bg) (w:Y):Calls Tryz.prog 341 #[.agg #[],Pw g] w fun e w'=>e=.returned (.bool (decide (g=.key)))/\Below w.heap.size w w':=by
 refine V.enter _ Tryz.func341 (Mem.start (C:=Ao) w) ?_;cases g
 all_goals
  unfold Pw
  repeat (first | refine W ?_ | refine R.new fun _ _=>?_)
  refine V.end fun w' h'=>?_;exact⟨rfl,h'.1.below⟩
theorem Py (rb:Nat) (col:Int) (U:TypeId) (u:Value) (w:Y):Calls Tryz.prog 190 #[.pointer (F ⟨rb,0,O⟩),I J col,.iface U u] w fun e w'=>∃ q:Nat×Nat×Nat,e=.returned (.func (.func 225) #[] #[.pointer (F ⟨q.1,0,O⟩),.pointer (F ⟨q.2.1,0,O⟩),.pointer (F ⟨q.2.2,0,O⟩)])/\Fr w w' [blk q.1 [.pointer (F ⟨rb,0,O⟩)] 153,blk q.2.1 [I J col] 3,blk q.2.2 [.iface U u] 290]:=by
 refine V.enter _ Tryz.func190 (Mem.start (C:=Ao) w) ?_;refine W ?_;refine R.new fun b3 h3=>?_;refine R.new fun b4 h4=>?_;refine R.new fun b5 h5=>?_
 repeat refine W ?_
 refine V.end fun w' h'=>?_;exact⟨(b3,b4,b5),rfl,(h'.sel:Mem Ao w [_,_,_] w').to_fr⟩
abbrev Ga:=Cn×List Cn×BR
def CU (es0:List En) (xs:List Ga):List En:=match xs.getLast? with
 | none=>es0
 | some x=>match x.2.2 with
  | .ok _ rest=>rest
  | _=>[]
def Oz (Wo:Gg) (rb:Nat) (l:List En):Aj:=Hf fun es:List Cn=>star [Dq rb es,pr (es.map (·.1)=l/\FM Wo es)]
def enY (Wo:Gg) (rb:Nat) (xs:List Ga):Aj:=match xs.getLast? with
 | none=>pr False
 | some x=>match x.2.2 with
  | .ok _ rest=>Oz Wo rb rest
  | _=>pr False
theorem Mg (es0:List En) (xs:List Ga) (x:Cn) (r:List Cn) (t:Tr) (rest:List En):CU es0 (xs++[(x,r,.ok t rest)])=rest:=by unfold CU;rw[List.getLast?_concat]
theorem Ux (Wo:Gg) (rb:Nat) (xs:List Ga) (x:Cn) (r:List Cn) (t:Tr) (rest:List En):enY Wo rb (xs++[(x,r,.ok t rest)])=Oz Wo rb rest:=by unfold enY;rw[List.getLast?_concat]
theorem Ad3 (Wo:Gg) (rb:Nat) (xs:List Ga) (x:Cn) (r:List Cn) (no e:Int):enY Wo rb (xs++[(x,r,.bad no e)])=pr False:=by unfold enY;rw[List.getLast?_concat]
theorem Aeo (Wo:Gg) (rb:Nat) (xs:List Ga) (x:Cn) (r:List Cn):enY Wo rb (xs++[(x,r,.out)])=pr False:=by unfold enY;rw[List.getLast?_concat]
theorem KP {Wo:Gg} {C:Nat->Prop} {w0 w:Y} {Zz:List Aj} {rb:Nat} {es:List Cn} {l:List En} (h:Mem C w0 (Dq rb es::Zz) w) (he:es.map (·.1)=l/\FM Wo es):Mem C w0 (Oz Wo rb l::Zz) w:=Mem.toEx es (Mem.toStar (B:=[_,_]) (Mem.pk (h.pr he) (.tl .hd)))
section
variable (Wo:Gg) (es0:List En) (col:Int) (bg:Bg) (step:Nat->En->List En->BR)
structure BAd (pre:List Ga) (x:Ga):Prop where
 at_:CU es0 pre=x.1.1::x.2.1.map (·.1)
 ok:FM Wo (x.1::x.2.1)
 col:x.1.1.col=col
 bg:C9 x.1.1.l=bg
 st:x.2.2=step pre.length x.1.1 (x.2.1.map (·.1))
inductive XX:List Ga->Prop
 | nil:XX []
 | snoc (pre:List Ga) (x:Ga) (h:XX pre) (ha:BAd Wo es0 col bg step pre x) (ho:∃ t rest,x.2.2=.ok t rest):XX (pre++[x])
def Ae0 (xs:List Ga):Prop:=XX Wo es0 col bg step xs/\∀ x r,CU es0 xs=x::r->¬(x.col=col/\C9 x.l=bg)
end
theorem XX.le {Wo:Gg} {es0:List En} {col:Int} {bg:Bg} {step:Nat->En->List En->BR} (hs:∀ i x r t rest,step i x r=.ok t rest->rest.length<=r.length) {xs:List Ga} (h:XX Wo es0 col bg step xs):(CU es0 xs).length+xs.length<=es0.length:=by
 induction h with
 | nil=>exact Nat.le_refl _
 | snoc pre x h ha ho ih=>
  obtain⟨t,rest,ho⟩:=ho;obtain⟨y,r,rs⟩:=x;dsimp only at ho;subst ho;rw[Mg,List.length_append,List.length_singleton];have h1:=hs _ _ _ t rest ha.st.symm;rw[ha.at_,List.length_cons] at ih;omega
theorem Afs {Wo:Gg} {es0:List En} {col:Int} {bg:Bg} {step:Nat->En->List En->BR} (hbg:bg=.dash\/bg=.key) (hs:∀ i x r t rest,step i x r=.ok t rest->rest.length<=r.length) (hn:es0.length<=1000000) (rb b3 b4 b5:Nat):
  V5 Tryz.prog 225 #[.pointer (F ⟨b3,0,O⟩),.pointer (F ⟨b4,0,O⟩),.pointer (F ⟨b5,0,O⟩)] (fun x:Ga=>[epV x.1]) (fun x=>[Dq rb (x.1::x.2.1)]) (fun xs=>[enY Wo rb xs])
   (fun xs=>[blk b3 [.pointer (F ⟨rb,0,O⟩)] 153,blk b4 [I J col] 3,blk b5 [Pw bg] 290,Oz Wo rb (CU es0 xs)]) (fun pre x=>XX Wo es0 col bg step pre/\BAd Wo es0 col bg step pre x) (Ae0 Wo es0 col bg step) (fun w G=>Blw Wo w/\BnW Wo G):=by
 refine FH.of fun lp Jz Jx w G hSt hG hY hM=>?_;obtain⟨hB,hQ⟩:=hSt;refine V.enter _ Tryz.func225 hM ?_;refine V.pre (S':=Mem G w [Oz Wo rb es0,blk b3 [.pointer (F ⟨rb,0,O⟩)] 153,blk b4 [I J col] 3,blk b5 [Pw bg] 290,Jz []]) ?_ (fun w' h'=>h'.sel);refine V.ex (fun es1=>?_);refine V.star ?_;refine V.prop (p:=es1.map (·.1)=es0/\FM Wo es1) (fun he1=>?_) (hp:=.tail _ (.head _));refine V.loop (ι:=List Ga×List Cn) (fun x=>XX Wo es0 col bg step x.1/\x.2.map (·.1)=CU es0 x.1/\FM Wo x.2) (fun x=>Mem G w ([blk b3 [.pointer (F ⟨rb,0,O⟩)] 153,blk b4 [I J col] 3,blk b5 [Pw bg] 290,Dq rb x.2,Jz x.1])) (fun x=>[(0,.func (.yield lp) #[] #[]),(1,.pointer (F ⟨b3,0,O⟩)),(2,.pointer (F ⟨b4,0,O⟩)),(3,.pointer (F ⟨b5,0,O⟩))]) (fun x=>x.2.length) ([],es1) ⟨.nil,he1⟩ (fun w h=>h.sel) ⟨rfl,rfl,rfl,rfl,trivial⟩ ?_;rintro⟨xs,es⟩ ⟨hxs,hes,hok⟩;dsimp only at hes hok;have hle:=hxs.le hs;rw[<- hes,List.length_map] at hle;have fin:∀ (w':Y),(∀ x r,CU es0 xs=x::r->¬(x.col=col/\C9 x.l=bg))->Mem G w [Dq rb es,blk b3 [.pointer (F ⟨rb,0,O⟩)] 153,blk b4 [I J col] 3,blk b5 [Pw bg] 290,Jz xs] w'->itR G w (fun xs=>[blk b3 [.pointer (F ⟨rb,0,O⟩)] 153,blk b4 [I J col] 3,blk b5 [Pw bg] 290,Oz Wo rb (CU es0 xs)]) Jz Jx (Ae0 Wo es0 col bg step) (.returned (.tuple #[])) w':=fun w' hf h=>
  ⟨⟨_,rfl⟩,.inl ⟨xs,⟨hxs,hf⟩,(KP h ⟨hes,hok⟩).sel⟩⟩
 cases es with
 | nil=>
  repeat refine W ?_
  refine R.c (fun w' h'=>Ep rb G w w' _ h' (by simp)) ?_
  repeat (first | refine W ?_ | refine R.new fun _ _=>?_)
  refine V.end fun w' h'=>?_;exact fin w' (fun x r h=>by rw[<- hes] at h;cases h) h'.sel
 | cons x r=>
  rw[List.length_cons] at hle;have hx:=hok x (List.mem_cons_self ..);obtain⟨⟨no,cl,l⟩,A,c⟩:=x;have fin2:∀ (w':Y),¬(cl=col/\C9 l=bg)->Mem G w (star [Dq rb ((⟨no,cl,l⟩,A,c)::r),Jz xs]::[blk b3 [.pointer (F ⟨rb,0,O⟩)] 153,blk b4 [I J col] 3,blk b5 [Pw bg] 290]) w'->_:=fun w' hf h=>fin w' (fun x r h=>by rw[<- hes] at h;cases h;exact hf) (Mem.star h).sel;refine V.pre (S':=Mem G w (star [Dq rb ((⟨no,cl,l⟩,A,c)::r),Jz xs]::[blk b3 [.pointer (F ⟨rb,0,O⟩)] 153,blk b4 [I J col] 3,blk b5 [Pw bg] 290])) ?_ (fun w' h'=>Mem.toStar (B:=[_,_]) h'.sel)
  repeat refine W ?_
  refine R.c (fun w' h'=>DA rb (⟨no,cl,l⟩,A,c) r G w w' _ (Mem.star (B:=[Dq rb ((⟨no,cl,l⟩,A,c)::r),Jz xs]) (A:=[]) h'.sel) (by simp) (by rw[List.length_cons];omega)) ?_;iterate 3 refine W ?_
  refine R.new fun be hbe=>?_;iterate 4 refine W ?_
  by_cases e:cl=col
  ·subst e;obtain⟨rs,hrs⟩:∃ z,step xs.length ⟨no,cl,l⟩ (r.map (·.1))=z:=⟨_,rfl⟩
   have hy:=fun(hb:C9 l=bg)=>hY xs ((⟨no,cl,l⟩,A,c),r,rs) ⟨hxs,⟨hes.symm,hok,rfl,hb,hrs.symm⟩⟩;obtain⟨vb,hvb⟩:∃ v,v=decide (C9 l=bg):=⟨_,rfl⟩
   refine Zz.on (Mem G w [blk be (M6 (⟨no,cl,l⟩,A,c)) 219,blk b4 [I J cl] 3,blk b5 [Pw bg] 290]) ?_;rcases hbg with rfl | rfl;all_goals
    repeat refine Wy ?_
    refine Zz.c (fun w' h'=>G0 (Yz Wo) no cl A c l w' (hx.tks.to fun b o v hb hv=>⟨(hB.ext hQ h'.1).cell hv hb.2,hb⟩)) ?_
    repeat refine Wy ?_
    first
     | refine Zz.do (hd:=by exact D.ci (fun w' h'=>WR (C9 l) w') (Ai2 _) (Ajk _)) (h:=fun _=>?_)
     | refine Zz.do (hd:=by exact D.ci (fun w' h'=>WM (C9 l) w') (Ajy _) (Ajc _)) (h:=fun _=>?_)
    repeat refine Wy ?_
    refine Zz.re 32 (v':=.bool (!vb)) (by first | exact congrArg (fun b=>Value.bool (!b)) hvb.symm | done) ?_;cases vb
    rotate_left
    ·have eb:=of_decide_eq_true hvb.symm;have hy:=hy eb
     repeat refine Wy ?_
     refine Zz.do (hd:=by exact D.y (Jz:=star [Dq rb ((⟨no,cl,l⟩,A,c)::r),Jz xs]) (J':=star [enY Wo rb (xs++[((⟨no,cl,l⟩,A,c),r,rs)]),Jz (xs++[((⟨no,cl,l⟩,A,c),r,rs)])]) (Jx:=Jx (xs++[((⟨no,cl,l⟩,A,c),r,rs)])) hy) (h:=fun z=>?_);cases z
     ·refine Zz.off (fun w' h'=>h'.sel) ?_
      repeat refine W ?_
      refine V.end fun w' h'=>?_;exact⟨⟨_,rfl⟩,.inr ⟨_,h'.sel⟩⟩
     ·refine Zz.off (fun w' h'=>h'.sel) ?_
      repeat refine W ?_
      refine V.star ?_;cases rs with
      | out=>rw[Aeo];exact V.prop (p:=False) (fun h=>h.elim)
      | bad n2 e2=>rw[Ad3];exact V.prop (p:=False) (fun h=>h.elim)
      | ok t rest=>
       rw[Ux];refine V.ex (fun es2=>?_);refine V.star ?_;refine V.prop (p:=es2.map (·.1)=rest/\FM Wo es2) (fun he2=>?_) (hp:=.tail _ (.head _));have hl2:=hs _ _ _ t rest hrs;rw[<- he2.1,List.length_map,List.length_map] at hl2;exact V.again (xs++[((⟨no,cl,l⟩,A,c),r,.ok t rest)],es2) rfl ⟨.snoc xs ((⟨no,cl,l⟩,A,c),r,.ok t rest) hxs ⟨hes.symm,hok,rfl,eb,hrs.symm⟩ ⟨t,rest,rfl⟩,by rw[Mg];exact he2.1,he2.2⟩ (by dsimp only;rw[List.length_cons];omega)
    ·have eb:=of_decide_eq_false hvb.symm;refine Zz.off (fun w' h'=>h'.sel) ?_
     repeat refine W ?_
     refine V.end fun w' h'=>?_;exact fin2 w' (fun h=>eb h.2) h'.sel
  ·repeat refine W ?_
   refine R.re 22 (v:=.bool (cl !=col)) (v':=.bool true) (by simp[e]) ?_
   repeat refine W ?_
   refine V.end fun w' h'=>?_;exact fin2 w' (fun h=>e h.1) h'.sel
end
section
theorem H3:∀ n,(∀ m d x r t rest,AV n m d (x::r)=.ok t rest->rest<:+r)/\(∀ no m d l t rest,belowB n no m d l=.ok t rest->rest<:+l)∧
  (∀ d x r t rest,BB n d x r=.ok t rest->rest<:+r)/\(∀ col d l acc t rest,BW n col d l acc=.ok t rest->rest<:+l)∧
  (∀ d x r acc t rest,C9 x.l=.dash->BW n x.col d (x::r) acc=.ok t rest->rest<:+r)∧
  (∀ d x r t rest,Cb n d x r=.ok t rest->rest<:+r)/\(∀ col d l ks ts t rest,AQ n col d l ks ts=.ok t rest->rest<:+l)∧
  (∀ d x r ks ts t rest,C9 x.l=.key->AQ n x.col d (x::r) ks ts=.ok t rest->rest<:+r)
 | 0=>by
  refine⟨?_,?_,?_,?_,?_,?_,?_,?_⟩<;>intros<;>rename_i h<;>simp[AV,belowB,BB,BW,Cb,AQ] at h
 | n+1=>by
  obtain⟨hN,hB,hI,hS,hS2,hP,hD,hD2⟩:=H3 n;have sq:∀ d x r acc t rest,(BB n (d+1) x r).bind (fun t rest=>BW n x.col d rest (acc++[t]))=.ok t rest->rest<:+r:=fun d x r acc t rest h=>by
   cases hi:BB n (d+1) x r with
   | ok t1 r1=>rw[hi] at h;simp only[BR.bind] at h;exact(hS _ _ _ _ _ _ h).trans (hI _ _ _ _ _ hi)
   | bad no e=>rw[hi] at h;simp only[BR.bind] at h;cases h
   | out=>rw[hi] at h;simp only[BR.bind] at h;cases h
  have dq:∀ d x r ks ts t rest,(if (EA x.l).2≠0 then BR.bad x.no (EA x.l).2 else (Cb n (d+1) x r).bind (fun t rest=>AQ n x.col d rest (ks++[(EA x.l).1]) (ts++[t])))=.ok t rest->rest<:+r:=fun d x r ks ts t rest h=>by
   split at h
   ·cases h
   ·cases hi:Cb n (d+1) x r with
    | ok t1 r1=>rw[hi] at h;simp only[BR.bind] at h;exact(hD _ _ _ _ _ _ _ h).trans (hP _ _ _ _ _ hi)
    | bad no e=>rw[hi] at h;simp only[BR.bind] at h;cases h
    | out=>rw[hi] at h;simp only[BR.bind] at h;cases h
  refine⟨fun m d x r t rest h=>?_,fun no m d l t rest h=>?_,fun d x r t rest h=>?_,fun col d l acc t rest h=>?_,fun d x r acc t rest hb h=>?_,fun d x r t rest h=>?_,fun col d l ks ts t rest h=>?_,fun d x r ks ts t rest hb h=>?_⟩
  ·rw[AV] at h
   (try simp only at h)
   split at h
   ·cases h
   ·cases hb:C9 x.l with
    | dash=>rw[hb] at h;exact hS2 _ _ _ _ _ _ hb h
    | key=>rw[hb] at h;exact hD2 _ _ _ _ _ _ _ hb h
    | name s=>
     rw[hb] at h;obtain⟨t',h',_⟩:=GQ h;exact hB _ _ _ _ _ _ h'
    | plain=>rw[hb] at h;rw[(GE h).1];exact List.suffix_refl _
  ·cases l with
   | nil=>
    rw[belowB] at h
    (try simp only at h)
    split at h
    ·cases h
    ·injection h with _ h;rw[<- h];exact List.suffix_refl _
   | cons x r=>
    rw[belowB] at h
    (try simp only at h)
    split at h
    ·exact(hN _ _ _ _ _ _ h).trans (List.suffix_cons _ _)
    ·split at h
     ·cases h
     ·injection h with _ h;rw[<- h];exact List.suffix_refl _
  ·rw[BB] at h;split at h
   ·exact hB _ _ _ _ _ _ h
   ·exact hN _ _ _ _ _ _ h
  ·cases l with
   | nil=>rw[BW] at h;(try simp only at h);injection h with _ h;rw[<- h];exact List.suffix_refl _
   | cons x r=>
    rw[BW] at h
    (try simp only at h)
    split at h
    ·rename_i hx;rw[<- hx.1] at h;exact(sq _ _ _ _ _ _ h).trans (List.suffix_cons _ _)
    ·rw[(Ff h).2.1];exact List.suffix_refl _
  ·rw[BW] at h
   (try simp only at h)
   rw[if_pos ⟨trivial,hb⟩] at h;exact sq _ _ _ _ _ _ h
  ·rw[Cb] at h;split at h
   ·obtain⟨t',h',_⟩:=GQ h;exact hB _ _ _ _ _ _ h'
   ·split at h
    ·exact hB _ _ _ _ _ _ h
    ·rw[(GE h).1];exact List.suffix_refl _
  ·cases l with
   | nil=>rw[AQ] at h;(try simp only at h);injection h with _ h;rw[<- h];exact List.suffix_refl _
   | cons x r=>
    rw[AQ] at h
    (try simp only at h)
    split at h
    ·rename_i hx;rw[<- hx.1] at h;exact(dq _ _ _ _ _ _ _ h).trans (List.suffix_cons _ _)
    ·rw[(Ff h).2.1];exact List.suffix_refl _
  ·rw[AQ] at h
   (try simp only at h)
   rw[if_pos ⟨trivial,hb⟩] at h;exact dq _ _ _ _ _ _ _ h
def Ee (l:List En):Nat:=(l.map fun x=>x.l.length+1).sum
theorem AR (x:En) (l:List En):Ee (x::l)=x.l.length+1+Ee l:=by unfold Ee;simp
theorem LI {r l:List En} (h:r<:+l):Ee r<=Ee l:=by
 obtain⟨p,rfl⟩:=h;unfold Ee;rw[List.map_append,List.sum_append];omega
def Full (l:List En):Prop:=∀ x∈l,x.l≠[]
theorem Aby {l:List BX} (h:C9 l=.key):2<=l.length:=by
 unfold C9 at h;split at h
 ·cases h
 ·split at h
  ·rename_i h2;have h3:=h2.2;unfold kat at h3;rcases Nat.lt_or_ge 1 l.length with h4 | h4
   ·exact h4
   ·rw[List.getD,List.getElem?_eq_none h4] at h3;exact absurd h3 (by decide)
  ·split at h<;>cases h
end
section
set_option maxHeartbeats 8000000
set_option maxRecDepth 100000
abbrev AE (es:List Cn):List En:=es.map (·.1)
theorem EH (l:List En):l.length<=Ee l:=by
 induction l with
 | nil=>exact Nat.zero_le _
 | cons x r ih=>rw[AR,List.length_cons];omega
def Wu (Wo:Gg) (n:Nat):Prop:=∀ (m:Int) (d:Nat) (es:List Cn),FM Wo es->es≠[]->d<=1000->4*Ee (AE es)+2<=n->BkC Wo es 111 [I J m,I J d] (AV n m d (AE es))
def R4 (Wo:Gg) (n:Nat):Prop:=∀ (no col m:Int) (A:Option Addr) (lf cf d:Nat) (es:List Cn),FM Wo es->d<=1000->4*Ee (AE es)+3<=n->BkC Wo es 195 [enV no col A lf cf,I J m,I J d] (belowB n no m d (AE es))
section
variable {Wo:Gg} {n:Nat}
theorem S0 (hn1:n<=1000000) (hN:Wu Wo n):R4 Wo (n+1):=by
 intro no col m A lf cf d es hes hd hn rb w hB Fz hX hF hQ;have hle:=EH (AE es);rw[List.length_map] at hle;have hsome:=fun x r (h:es=x::r)=>hN m d (x::r) (h▸hes) (by simp) hd (by subst h;omega) rb;refine V.enter _ Tryz.func195 (Mem.startX hX hF) ?_
 repeat (first | refine W ?_ | refine R.new fun _ _=>?_)
 cases es with
 | nil=>
  rw[show belowB (n+1) no m d (AE [])=if 24<d then .bad no 73 else .ok DW [] by show belowB (n+1) no m d []=_;rw[belowB]];refine R.c (fun w' h'=>Ep rb Fz w w' _ h' (by simp)) ?_
  repeat (first | refine W ?_ | refine R.new fun _ _=>?_)
  refine V.ifp (fun h=>?_) (fun h=>?_)
  ·rw[if_pos (show 24<d by omega)]
   repeat refine W ?_
   refine R.c (fun w' h'=>Bk no col A lf cf 73 w') ?_
   repeat refine W ?_
   refine V.eA fun w' h'=>?_;exact⟨(EO A4,[]),rfl,Dv h'.sel (Nat.zero_le _)⟩
  ·rw[if_neg (show ¬24<d by omega)]
   repeat refine W ?_
   refine V.eA fun w' h'=>?_;exact⟨(EO A4,[]),rfl,Np (Mem.sel (Mem.tree0 (k:=0) (nm:=⟨#[]⟩) (x:=A4) h')) ⟨rfl,hes⟩⟩
 | cons x r=>
  have hsome:=hsome x r rfl;rw[List.length_cons] at hle;refine R.c (fun w' h'=>DA rb x r Fz w w' _ h' (by simp) (by rw[List.length_cons];omega)) ?_;obtain⟨⟨no2,cl,l⟩,A2,c2⟩:=x;rw[show belowB (n+1) no m d (AE ((⟨no2,cl,l⟩,A2,c2)::r))=if m<cl then AV n m d (AE ((⟨no2,cl,l⟩,A2,c2)::r)) else if 24<d then .bad no 73 else .ok DW (AE ((⟨no2,cl,l⟩,A2,c2)::r)) by show belowB (n+1) no m d (⟨no2,cl,l⟩::AE r)=_;rw[belowB];rfl];obtain⟨res,hres⟩:∃ z,AV n m d (AE ((⟨no2,cl,l⟩,A2,c2)::r))=z:=⟨_,rfl⟩
  rw[hres] at hsome |-
  repeat (first | refine W ?_ | refine R.new fun _ _=>?_)
  refine V.ifp (fun h=>?_) (fun h=>?_)
  ·rw[if_pos h]
   repeat refine W ?_
   refine R.cq (fun w' h'=>hsome w' (hB.ext hQ h'.1)) (fun G hG=>hB.of hQ G hG) (fun y=>?_)
   repeat refine W ?_
   refine V.eA fun w' h'=>?_;exact⟨y,rfl,Mem.toW h'.sel⟩
  ·rw[if_neg h]
   repeat refine W ?_
   refine V.ifp (fun h=>?_) (fun h=>?_)
   ·rw[if_pos (show 24<d by omega)]
    repeat refine W ?_
    refine R.c (fun w' h'=>Bk no col A lf cf 73 w') ?_
    repeat refine W ?_
    refine V.eA fun w' h'=>?_;exact⟨(EO A4,(⟨no2,cl,l⟩,A2,c2)::r),rfl,Dv h'.sel (by rw[List.length_cons];omega)⟩
   ·rw[if_neg (show ¬24<d by omega)]
    repeat refine W ?_
    refine V.eA fun w' h'=>?_;exact⟨(EO A4,(⟨no2,cl,l⟩,A2,c2)::r),rfl,Np (Mem.sel (Mem.tree0 (k:=0) (nm:=⟨#[]⟩) (x:=A4) h')) ⟨rfl,hes⟩⟩
theorem Ad9 {C:Nat->Prop} {w0 w:Y} {Zz:List Aj} {y:TY} {t:Tr} (h:Mem C w0 Zz w) (hm:Aq (As y) t∈Zz):y.1=t.kind/\y.2.1=t.nm:=by
 obtain⟨Fz,hF,_⟩:=h.has hm;obtain⟨k,nm,x,ks,ts⟩:=t;have hF:Cm w Fz (.mk k nm x ks ts) (As y):=hF;obtain⟨KA,kc,A,c,e⟩:=hF.form;unfold As at e;injection e with e0 e;injection e with e1 e;injection e0 with _ e0;injection e1 with e1;exact⟨e0,e1⟩
theorem Mi (hn1:n<=1000000) (hB0:R4 Wo n) (no col m:Int) (A:Option Addr) (lf cf d:Nat) (s:List UInt8) (es:List Cn) (hes:FM Wo es) (hd:d<=1000) (hn:4*Ee (AE es)+3<=n):
  BkC Wo es 154 [enV no col A lf cf,Q ⟨s.toArray⟩,I J m,I J d] (LB no s (belowB n no m d (AE es))):=by
 intro rb w hB Fz hX hF hQ;have hC:=hB0 no col m A lf cf d es hes hd hn rb;have hlen:∀ t rest,belowB n no m d (AE es)=.ok t rest->rest.length<=1000000:=fun t rest h=>by
  have h1:=((H3 n).2.1 _ _ _ _ _ _ h).length_le;have h2:=EH (AE es);omega
 generalize belowB n no m d (AE es)=res at hC hlen |-;refine V.enter _ Tryz.func154 (Mem.startX hX hF) ?_
 repeat (first | refine W ?_ | refine R.new fun _ _=>?_)
 refine R.cq (fun w' h'=>hC w' (hB.ext hQ h'.1)) (fun G hG=>hB.of hQ G hG) (fun y=>?_);cases res with
 | out=>
  unfold Sj;refine R.know (p:=False) (fun w' h'=>let ⟨_,h1,_⟩:=h'.has (X:=pr False) (by simp);h1) (fun h=>h.elim)
 | bad no2 e2=>
  unfold Sj brV XU MC
  repeat (first | refine W ?_ | refine R.new fun _ _=>?_)
  refine V.eA fun w' h'=>?_;exact⟨((y.1.1,⟨s.toArray⟩,y.1.2.2),y.2),rfl,Mem.toW h'.sel⟩
 | ok t rest=>
  unfold Sj brV XU;iterate 3 refine W ?_
  refine R.new fun b12 h12=>?_;iterate 3 refine W ?_
  refine V.us (B:=[Dq rb y.2,Aq (As y.1) t,pr (AE y.2=rest/\FM Wo y.2)]) ?_;refine V.know (fun w' h'=>Ad9 (y:=y.1) (t:=t) h' (by simp)) (fun hy=>?_);refine V.prop (p:=AE y.2=rest/\FM Wo y.2) (fun hp=>?_) (hp:=.tail _ (.tail _ (.head _)));have hl2:=hlen t rest rfl;rw[<- hp.1,List.length_map] at hl2;have hnm:(!y.1.2.1.toList.isEmpty)=decide (t.nm≠⟨#[]⟩):=by
   rw[hy.2,ByteArray.toList_eq];obtain⟨⟨l⟩⟩:=t.nm;cases l with
   | nil=>rfl
   | cons a r=>simp
  unfold LB;dsimp only
  repeat refine W ?_
  by_cases h3:t.kind=3
  ·rw[if_pos (.inl h3)];refine R.re 28 (v:=.bool (y.1.1==3)) (v':=.bool true) (by rw[hy.1,h3];rfl) ?_
   repeat refine W ?_
   refine R.c (fun w' h'=>Bk no col A lf cf 93 w') ?_
   repeat refine W ?_
   refine V.eA fun w' h'=>?_;exact⟨((y.1.1,⟨s.toArray⟩,y.1.2.2),y.2),rfl,Dv (Wo:=Wo) (no:=no) (e:=93) h'.sel hl2⟩
  ·refine R.re 28 (v:=.bool (y.1.1==3)) (v':=.bool false) (by rw[hy.1];simp[h3]) ?_
   repeat refine W ?_
   by_cases h4:t.nm=⟨#[]⟩
   ·rw[if_neg (not_or.2 ⟨h3,fun h=>h h4⟩)];refine V.re 33 (v:=.bool (!y.1.2.1.toList.isEmpty)) (v':=.bool false) (by rw[hnm];simp[h4]) ?_
    repeat refine W ?_
    refine V.eA fun w' h'=>?_;have h1:Mem Fz w [Aq (As y.1) t,Dq rb y.2] w':=h'.sel;exact⟨((y.1.1,⟨s.toArray⟩,y.1.2.2),y.2),rfl,Np (Mem.sel (Afb (s:=s) h1)) hp⟩
   ·rw[if_pos (.inr h4)];refine V.re 33 (v:=.bool (!y.1.2.1.toList.isEmpty)) (v':=.bool true) (by rw[hnm];simp[h4]) ?_
    repeat refine W ?_
    refine R.c (fun w' h'=>Bk no col A lf cf 93 w') ?_
    repeat refine W ?_
    refine V.eA fun w' h'=>?_;exact⟨((y.1.1,⟨s.toArray⟩,y.1.2.2),y.2),rfl,Dv (Wo:=Wo) (no:=no) (e:=93) h'.sel hl2⟩
end
end
section
set_option maxHeartbeats 8000000
set_option maxRecDepth 100000
theorem QL (ts:List Tr) (t:Tr):Ak.deepTs (ts++[t])=max (Ak.deepTs ts) (Ak t):=by
 induction ts with
 | nil=>rw[List.nil_append,Cg,Hx];omega
 | cons u r ih=>rw[List.cons_append,Cg,Cg,ih];omega
theorem Q5 (ts:List Tr) (i:Nat):Ak.deepTs (ts.take i)<=Ak.deepTs ts:=by
 induction ts generalizing i with
 | nil=>rw[List.take_nil];exact Nat.le_refl _
 | cons u r ih=>
  cases i with
  | zero=>rw[List.take_zero,Hx];exact Nat.zero_le _
  | succ i=>rw[List.take_succ_cons,Cg,Cg];have:=ih i;omega
theorem Lw:∀ (ts:List Tr) (i:Nat) (t:Tr),ts[i]? =F t->Ak t<=Ak.deepTs ts
 | u::r,0,t,h=>by cases h;rw[Cg];omega
 | u::r,i+1,t,h=>by have:=Lw r i t h;rw[Cg];omega
def Ab0 (t:Tr):Prop:=∀ (vs:List Value) (S:Nat->Prop) (w:Y),Cm w S t vs->Sm 1000000 t->Ak t<=1000000->Calls Tryz.prog 197 #[.agg vs.toArray] w fun e w'=>e=.returned (I J (Ak t))/\Below w.heap.size w w'
theorem Zt (k0:Int) (nm:ByteArray) (x:Sc) (ks:List Sc) (ts:List Tr) (hk:∀ (i:Nat) (t:Tr),ts[i]? =F t->Ab0 t):Ab0 (.mk k0 nm x ks ts):=by
 intro vs S w h hsm hdp;unfold Cm at h;obtain⟨KA,kc,A,c,rfl,hks,hts⟩:=h;unfold Sm at hsm;obtain⟨_,hn,hsm⟩:=hsm;rw[show Ak (.mk k0 nm x ks ts)=Ak.deepTs ts+1 by rw[Ak]] at hdp |-;refine V.enter _ Tryz.func197 (Mem.start (C:=Ao) w) ?_
 repeat (first | refine W ?_ | refine R.new fun _ _=>?_)
 refine V.loop (fun i=>i<=ts.length) (fun i=>Mem Ao w []) (fun i=>[(9,I J i),(8,I J ts.length),(7,Z A ts.length c),(3,I J (Ak.deepTs (ts.take i)))]) (ts.length - ·) 0 (Nat.zero_le _) (fun w h=>h.sel) ⟨rfl,rfl,rfl,by rw[List.take_zero,Hx];rfl,trivial⟩ ?_;intro i hi
 repeat refine W ?_
 refine V.ifp (fun hlt=>?_) (fun hge=>?_)
 ·have hlt:i<ts.length:=by omega
  obtain⟨t,ht⟩:∃ t,ts[i]? =F t:=⟨_,List.getElem?_eq_getElem hlt⟩
  obtain⟨b,o,us,rfl,hSb,hc,htr⟩:=TsV.get hts ht;rw[Nat.zero_add] at hc;have hd1:=Lw ts i t ht;have hd2:=Q5 ts i;have hsm2:Sm 1000000 t:=by
   have:=Zu ts i hlt hsm
   rwa [List.getD_eq_getElem?_getD,ht] at this
  have hu7:=htr.len.1;obtain⟨y,rfl,_⟩:=htr.y
  repeat refine W ?_
  refine R.ix hlt ?_;refine R.lo (m:=7) 0 hc ?_
  repeat (first | refine W ?_ | refine R.new fun _ _=>?_)
  refine R.c (fun w' h'=>hk i t ht (As y) S w' (Cm.to (fun b o v hb hv=>⟨h'.1.cell hv (fun e=>e),hb⟩) _ _ htr) hsm2 (by omega)) ?_
  repeat refine W ?_
  exact V.again (i+1) rfl hlt (hl:=⟨rfl,rfl,rfl,by rw[List.take_add_one,ht,show(F t).toList=[t] from rfl,QL];exact congrArg (fun z:Int=>F (Value.int .i64 z)) (by omega),trivial⟩)
 ·have he:i=ts.length:=by omega
  subst he;rw[List.take_length]
  repeat refine W ?_
  refine V.end fun w' h'=>?_;exact⟨rfl,h'.1.below⟩
mutual
theorem UZ:∀ t:Tr,Ab0 t
 | .mk k nm x ks ts=>Zt k nm x ks ts (VT ts)
theorem VT:∀ (ts:List Tr) (i:Nat) (t:Tr),ts[i]? =F t->Ab0 t
 | u::r,0,t,h=>by
  have:u=t:=by simpa using h
  subst this;exact UZ u
 | u::r,i+1,t,h=>VT r i t h
end
section
variable {Wo:Gg}
theorem Mh (no col:Int) (A:Option Addr) (lf cf:Nat) (l:List BX) (A2:Option Addr) (c2 d:Nat) (es:List Cn) (hes:FM Wo es) (hT:Fx Wo.wB (Yz Wo) A2 l) (hlen:l.length<=1000000) (hsm:∀ t∈l,t.str.length<=1000000) (hcap:l.length<=c2) (hd:d<=1000) (hn:es.length<=1000000):
  BkC Wo es 155 [enV no col A lf cf,Z A2 l.length c2,I J d] (I2 no l d (AE es)):=by
 intro rb w hB Fz hX hF hQ;have hW:=fun w' (hb:Blw Wo w')=>QQ A2 c2 l w' (hb.rd hT hlen hsm) hb.err hcap;obtain⟨⟨t,er⟩,hr⟩:∃ r,D9 (UR l)=r:=⟨_,rfl⟩
 have hok:er=0->Sm 1000000 t/\Ak t<=24:=fun e=>by
  subst e;obtain⟨h1,h2⟩:=Mu hr;exact⟨Afp h1 (by rw[T3];exact hlen),h2⟩
 rw[show l.map DP=UR l from rfl,hr] at hW;rw[show I2 no l d (AE es)=if 24<d then .bad no 73 else if er≠0 then .bad no er else if 24<Ak t+d - 1 then .bad no 73 else .ok t (AE es) by unfold I2;rw[hr]];have h1:=PZ t;refine V.enter _ Tryz.func155 (Mem.startX hX hF) ?_
 repeat (first | refine W ?_ | refine R.new fun _ _=>?_)
 refine V.ifp (fun h=>?_) (fun h=>?_)
 ·rw[if_pos (show 24<d by omega)]
  repeat refine W ?_
  refine R.c (fun w' h'=>Bk no col A lf cf 73 w') ?_
  repeat refine W ?_
  refine V.eA fun w' h'=>?_;exact⟨(EO A4,es),rfl,Dv h'.sel hn⟩
 ·rw[if_neg (show ¬24<d by omega)]
  repeat refine W ?_
  refine R.cf (fun w' h'=>hW w' (hB.ext hQ h'.1)) (fun y=>?_)
  repeat (first | refine W ?_ | refine R.new fun _ _=>?_)
  by_cases he:er=0
  ·obtain⟨hsm2,hdp⟩:=hok he;subst he;rw[if_neg (fun h=>h rfl)]
   repeat refine W ?_
   refine R.c (fun w' h'=>let ⟨F',hF',_⟩:=h'.has (X:=Aq (As y) t) (by simp);UZ t (As y) F' w' hF' hsm2 (by omega)) ?_
   repeat refine W ?_
   refine V.ifp (fun h=>?_) (fun h=>?_)
   ·rw[if_pos (show 24<Ak t+d - 1 by omega)]
    repeat refine W ?_
    refine R.c (fun w' h'=>Bk no col A lf cf 73 w') ?_
    repeat refine W ?_
    refine V.eA fun w' h'=>?_;exact⟨(EO A4,es),rfl,Dv h'.sel hn⟩
   ·rw[if_neg (show ¬24<Ak t+d - 1 by omega)]
    repeat refine W ?_
    refine V.eA fun w' h'=>?_;exact⟨(y,es),rfl,Np h'.sel ⟨rfl,hes⟩⟩
  ·rw[if_pos he];refine R.re 24 (v:=.bool (er==0)) (v':=.bool false) (by simp[he]) ?_
   repeat refine W ?_
   refine V.re 33 (v:=.bool (er !=0)) (v':=.bool true) (by simp[he]) ?_
   repeat refine W ?_
   refine R.c (fun w' h'=>Bk no col A lf cf er w') ?_
   repeat refine W ?_
   refine V.eA fun w' h'=>?_;exact⟨(EO A4,es),rfl,Dv h'.sel hn⟩
end
end
section
set_option maxHeartbeats 32000000
set_option maxRecDepth 100000
theorem Fx.from {w:Y} {S:Nat->Prop} {b o k:Nat} {A':Option Addr} {l:List BX} (h:Fx w S (F ⟨b,o,O⟩) l) (hA:k<l.length->A'=F ⟨b,o+k*3,O⟩):Fx w S A' (l.drop k):=fun j t hj=>by
 rw[List.getElem?_drop] at hj;have hlt:=(List.getElem?_eq_some_iff.1 hj).1;obtain⟨b',o',e,hb,hc⟩:=h _ t hj;cases e
 exact⟨b,o+k*3,hA (by omega),hb,by rwa [show o+k*3+j*3=o+(k+j)*3 by omega]⟩
theorem GdN.next {x:En} (h:GdN x) (h2:2<=x.l.length):GdN (GV x):=by
 obtain⟨no,col,l⟩:=x
 match l,h2 with
 | a::c::r,_=>
  refine⟨by simp[GV],?_,?_,fun t ht=>h.pl t (by simp[GV] at ht |-;exact .inr ht)⟩
  ·have:=h.lo;simp[GV] at this |-;omega
  ·have:=h.hi;simp[GV] at this |-;omega
section
variable {Wo:Gg} {n:Nat}
theorem We (hn1:n<=1000000) (hB0:R4 Wo n) (hN:Wu Wo n) (x:Cn) (r:List Cn) (d:Nat) (hes:FM Wo (x::r)) (hd:d<=1000) (hn:4*Ee (AE (x::r))<=n+1):
  BkC Wo (x::r) 191 [epV x,I J d] (BB (n+1) d x.1 (AE r)):=by
 intro rb w hB Fz hX hF hQ;have hle:=EH (x.1::AE r);rw[List.length_cons,List.length_map] at hle;have hn:4*Ee (x.1::AE r)<=n+1:=hn;have hlen:(x::r).length<=1000000:=by rw[List.length_cons];omega
 have hx:=hes x (List.mem_cons_self ..);obtain⟨⟨no,cl,l⟩,A,c⟩:=x;have hcap:l.length<=c:=hx.cap;rw[AR] at hn;dsimp only at hn;refine V.enter _ Tryz.func191 (Mem.startX hX hF) ?_;refine W ?_;refine R.new fun b4 h4=>?_
 repeat (first | refine W ?_ | refine R.new fun _ _=>?_)
 match l,hx with
 | [],hx=>exact absurd rfl hx.g.ne
 | [t0],hx=>
  have hC:=hB0 no cl cl A 1 c d r hes.tl hd (by simp at hn;omega) rb;rw[show BB (n+1) d ⟨no,cl,[t0]⟩ (AE r)=belowB n no cl d (AE r) by rw[BB];rfl]
  repeat refine W ?_
  refine R.cq (fun w' h'=>IV rb _ r w' hlen) (fun G hG=>trivial) (fun _=>?_)
  repeat refine W ?_
  refine R.cq (fun w' h'=>hC w' (hB.ext hQ h'.1)) (fun G hG=>hB.of hQ G hG) (fun y=>?_)
  repeat refine W ?_
  refine V.eA fun w' h'=>?_;exact⟨y,rfl,Mem.toW h'.sel⟩
 | t0::t1::l',hx=>
  obtain⟨b,o,rfl,hb,hc0⟩:=hx.tks 0 t0 rfl;obtain⟨_,_,e,_,hc1⟩:=hx.tks 1 t1 rfl;cases e
  have k0:Cs w b (o+0*3) (CY t0):=hB.cs hc0 hb;have k1:Cs w b (o+1*3) (CY t1):=hB.cs hc1 hb;have hnF:¬Fz b:=hb.not hQ;have hlo: -10000000<=cl - t0.at_:=hx.g.lo;have hhi:cl - t0.at_<=10000000:=hx.g.hi;have hp0:=hx.g.pl t0 (by simp);have hp1:=hx.g.pl t1 (by simp);obtain⟨y,hy⟩:∃ y:Cn,y=(GV ⟨no,cl,t0::t1::l'⟩,F ⟨b,o+1*3,O⟩,c - 1):=⟨_,rfl⟩
  have hyP:EpP Wo y:=by
   subst hy;exact⟨hx.tks.from (k:=1) (A':=F ⟨b,o+1*3,O⟩) (fun _=>rfl),by have:=hx.len;show l'.length+1<=_;simp at this;omega,fun t ht=>hx.small t (List.mem_cons_of_mem _ ht),by show l'.length+1<=c - 1;simp at hcap;omega,hx.g.next (by simp)⟩
  have hC:=hN cl d (y::r) (fun z hz=>(List.mem_cons.1 hz).elim (fun e=>by rw[e];exact hyP) (fun h=>hes.tl z h)) (by simp) hd (by show 4*Ee (y.1::AE r)+2<=n;rw[AR];subst hy;simp[GV] at hn |-;omega) rb;rw[show BB (n+1) d ⟨no,cl,t0::t1::l'⟩ (AE r)=AV n cl d (AE (y::r)) by rw[BB];subst hy;exact if_neg (by simp)];refine V.re 11 (v:=.bool (((t0::t1::l').length:Int)==1)) (v':=.bool false) (by simp;omega) ?_;iterate 2 refine W ?_
  refine Zz.on (Mem Fz w [blk b4 (enC no cl (F ⟨b,o,O⟩) (t0::t1::l').length c) 219]) ?_
  repeat refine Wy ?_
  refine Zz.ix (k:=1) (show 1<(t0::t1::l').length by simp) ?_
  repeat refine Wy ?_
  refine Zz.lo 2 k1 ?_ hnF
  repeat refine Wy ?_
  refine Zz.ix (k:=0) (show 0<(t0::t1::l').length by simp) ?_
  repeat refine Wy ?_
  refine Zz.lo 2 k0 ?_ hnF
  repeat refine Wy ?_
  refine Zz.sl (k:=1) (sz:=3) (by simp) hcap (fun A' hA'=>?_);obtain rfl:=hA' (by simp);iterate 1 refine Wy ?_
  refine Zz.do (hd:=by exact D.cq (fun w' h'=>Aek rb _ y r w' hlen) (fun G hG=>trivial) (he:=by subst hy;rfl)) (h:=fun _=>?_);refine Zz.off (fun w' h'=>h'.sel) ?_
  repeat refine W ?_
  refine R.cq (fun w' h'=>hC w' (hB.ext hQ h'.1)) (fun G hG=>hB.of hQ G hG) (fun y=>?_)
  repeat refine W ?_
  refine V.eA fun w' h'=>?_;exact⟨y,rfl,Mem.toW h'.sel⟩
def prR (n d:Nat) (x:En) (r:List En):BR:=if (EA x.l).2≠0 then .bad x.no (EA x.l).2 else Cb n d x r
abbrev scB (b:Nat) (x:Sc):Aj:=blk b (DO x) 36
theorem WE (hn1:n<=1000000) (hB0:R4 Wo n) (x:Cn) (r:List Cn) (d:Nat) (hes:FM Wo (x::r)) (hd:d<=1000) (hn:4*Ee (AE (x::r))<=n+1) (hkey:C9 x.1.l=.key) (rb:Nat) (w:Y) (hB:Blw Wo w):
  BT Tryz.prog 194 #[.pointer (F ⟨rb,0,O⟩),epV x,I J d] w (Dq rb (x::r)) (BnW Wo) (fun y:TY×List Cn=>.tuple #[Di (EA x.1.l).1,.agg (As y.1).toArray,XU (prR (n+1) d x.1 (AE r))]) (Sj Wo rb (prR (n+1) d x.1 (AE r))):=by
 intro Fz hX hF hQ;have hle:=EH (x.1::AE r);rw[List.length_cons,List.length_map] at hle;have hn:4*Ee (x.1::AE r)<=n+1:=hn;have hlen:(x::r).length<=1000000:=by rw[List.length_cons];omega
 have hrl:r.length<=1000000:=by rw[List.length_cons] at hlen;omega
 have hx:=hes x (List.mem_cons_self ..);have h2:=Aby hkey;obtain⟨⟨no,cl,l⟩,A,c⟩:=x;have hcap:l.length<=c:=hx.cap;rw[AR] at hn;dsimp only at hn h2
 match l,hx,h2 with
 | t0::t1::l',hx,_=>
  obtain⟨b,o,rfl,hb,hc0⟩:=hx.tks 0 t0 rfl;have k0:Cs w b (o+0*3) (CY t0):=hB.cs hc0 hb;have hnF:¬Fz b:=hb.not hQ;have hts:=hx.small t0 (by simp);have hkf:=fun w' (h:Blw Wo w')=>Oc t0 w' hts h.tabs;have hfrom:=fun(A':Option Addr) hA=>hx.tks.from (k:=2) (A':=A') hA;rw[show(t0::t1::l').drop 2=l' from rfl] at hfrom;have hne:=hn;rw[show EA (En.l (Prod.fst ((⟨no,cl,t0::t1::l'⟩,F ⟨b,o,O⟩,c):Cn)))=Bd (DP t0) from rfl];have hres:prR (n+1) d ⟨no,cl,t0::t1::l'⟩ (AE r)=if (Bd (DP t0)).2≠0 then .bad no (Bd (DP t0)).2 else Cb (n+1) d ⟨no,cl,t0::t1::l'⟩ (AE r):=rfl
  dsimp only
  rw[hres];obtain⟨⟨ks,ke⟩,hkr⟩:∃ z,Bd (DP t0)=z:=⟨_,rfl⟩
  rw[hkr] at hkf |-;clear hkr hres;have hl:Ee (AE r)+(l'.length+2)+1=(t0::t1::l').length+1+Ee (AE r):=by simp;omega
  have hfu:4*Ee (AE r)+3<=n:=by omega
  have hpB:Cb (n+1) d ⟨no,cl,t0::t1::l'⟩ (AE r)=match C9 l' with | .name s=>LB no s (belowB n no cl d (AE r)) | _=>if l'.length+1+1=2 then belowB n no cl d (AE r) else I2 no l' d (AE r):=by rw[Cb];rfl
  have hbg:=fun(A':Option Addr) hA w' (h:Blw Wo w')=>G0 (Yz Wo) no cl A' (c - 2) l' w' ((hfrom A' hA).to fun b o v hb hv=>⟨h.cell hv hb.2,hb⟩);rw[hpB];obtain⟨g,hg⟩:∃ g,C9 l'=g:=⟨_,rfl⟩
  rw[hg] at hbg |-;refine V.enter _ Tryz.func194 (Mem.startX hX hF) ?_;refine W ?_;refine R.new fun b4 h4=>?_;refine R.new fun b6 h6=>?_;refine R.new fun b7 h7=>?_
  repeat refine W ?_
  refine R.cq (fun w' h'=>IV rb _ r w' hlen) (fun G hG=>trivial) (fun _=>?_)
  repeat (first | refine W ?_ | refine R.new fun _ _=>?_)
  refine R.ix (k:=0) (show 0<(t0::t1::l').length by simp) ?_;refine R.lo (m:=3) 0 k0 ?_ hnF;refine R.c (fun w' h'=>hkf w' (hB.ext hQ h'.1)) ?_;iterate 3 refine W ?_
  refine R.new fun b9 h9=>?_
  repeat refine W ?_
  by_cases he:ke=0
  ·rw[if_neg (fun h=>h he)];refine V.re 29 (v:=.bool (ke !=0)) (v':=.bool false) (by simp[he]) ?_;iterate 2 refine W ?_
   refine Zz.on (Mem Fz w [blk b4 (enC no cl (F ⟨b,o,O⟩) (t0::t1::l').length c) 219]) ?_
   repeat refine Wy ?_
   refine Zz.sl (k:=2) (sz:=3) (show 2<=(t0::t1::l').length by simp) hcap (fun A' hA'=>?_);refine Wy ?_;refine Zz.new fun b11 h11=>?_;iterate 1 refine Wy ?_
   refine Zz.off (fun w' h'=>h'.sel) ?_;iterate 2 refine W ?_
   refine R.new fun b12 h12=>?_
   repeat refine W ?_
   refine R.c (fun w' h'=>hbg A' hA' w' (hB.ext hQ h'.1)) ?_;cases g with
   | name s=>
    repeat (first | refine W ?_ | refine R.new fun _ _=>?_)
    refine R.cq (fun w' h'=>Mi hn1 hB0 no cl cl (F ⟨b,o,O⟩) (t0::t1::l').length c d s r hes.tl hd hfu rb w' (hB.ext hQ h'.1)) (fun G hG=>hB.of hQ G hG) (fun y=>?_);iterate 7 refine W ?_
    refine Zz.on (Mem Fz w [scB b9 ks,blk b12 (As y.1) 53]) ?_;iterate 6 refine Wy ?_
    refine Zz.off (fun w' h'=>h'.sel) ?_;refine W ?_;refine V.eA (fun w' h'=>?_) (hr:=.agg rfl (by(repeat (first | exact List.Mem.head _ | apply List.Mem.tail))) (by intro w;kernel_rfl) (by intro w;simp;try rfl) (.tmp rfl .nil));exact⟨y,rfl,Mem.toW h'.sel⟩
   | _=>
    dsimp only
    repeat (first | refine W ?_ | refine R.new fun _ _=>?_)
    by_cases hl0:l'=[]
    ·subst hl0;rw[if_pos (show([]:List BX).length+1+1=2 from rfl)]
     repeat refine W ?_
     refine R.cq (fun w' h'=>hB0 no cl cl (F ⟨b,o,O⟩) [t0,t1].length c d r hes.tl hd hfu rb w' (hB.ext hQ h'.1)) (fun G hG=>hB.of hQ G hG) (fun y=>?_);iterate 7 refine W ?_
     refine Zz.on (Mem Fz w [scB b9 ks,blk b12 (As y.1) 53]) ?_;iterate 6 refine Wy ?_
     refine Zz.off (fun w' h'=>h'.sel) ?_;refine W ?_;refine V.eA (fun w' h'=>?_) (hr:=.agg rfl (by(repeat (first | exact List.Mem.head _ | apply List.Mem.tail))) (by intro w;kernel_rfl) (by intro w;simp;try rfl) (.tmp rfl .nil));exact⟨y,rfl,Mem.toW h'.sel⟩
    ·have hl1:=List.length_pos_iff.2 hl0;rw[if_neg (by omega)];refine V.re 48 (v:=.bool ((l'.length:Int)==0)) (v':=.bool false) (by simp;omega) ?_
     repeat refine W ?_
     refine R.cq (fun w' h'=>Mh no cl (F ⟨b,o,O⟩) (t0::t1::l').length c l' A' (c - 2) d r hes.tl (hfrom A' hA') (by have:=hx.len;simp at this;omega) (fun t ht=>hx.small t (List.mem_cons_of_mem _ (List.mem_cons_of_mem _ ht))) (by simp at hcap;omega) hd hrl rb w' (hB.ext hQ h'.1)) (fun G hG=>hB.of hQ G hG) (fun y=>?_);iterate 7 refine W ?_
     refine Zz.on (Mem Fz w [scB b9 ks,blk b12 (As y.1) 53]) ?_;iterate 6 refine Wy ?_
     refine Zz.off (fun w' h'=>h'.sel) ?_;refine W ?_;refine V.eA (fun w' h'=>?_) (hr:=.agg rfl (by(repeat (first | exact List.Mem.head _ | apply List.Mem.tail))) (by intro w;kernel_rfl) (by intro w;simp;try rfl) (.tmp rfl .nil));exact⟨y,rfl,Mem.toW h'.sel⟩
  ·rw[if_pos he];refine V.re 29 (v:=.bool (ke !=0)) (v':=.bool true) (by simp[he]) ?_;iterate 2 refine W ?_
   refine Zz.on (Mem Fz w [scB b9 ks,blk b4 (enC no cl (F ⟨b,o,O⟩) (t0::t1::l').length c) 219]) ?_
   repeat refine Wy ?_
   refine Zz.c (fun w' h'=>Bk no cl (F ⟨b,o,O⟩) (t0::t1::l').length c ke w') ?_;iterate 3 refine Wy ?_
   refine Zz.off (fun w' h'=>h'.sel) ?_;refine W ?_;refine V.eA (fun w' h'=>?_) (hr:=.agg rfl (by(repeat (first | exact List.Mem.head _ | apply List.Mem.tail))) (by intro w;kernel_rfl) (by intro w;simp;try rfl) (.tmp rfl .nil));exact⟨(EO A4,r),rfl,Dv (Wo:=Wo) (no:=no) (e:=ke) h'.sel hrl⟩
end
end
section
set_option maxRecDepth 100000
structure Ahp (col:Int) (bg:Bg) (stp:Nat->En->List En->BR) (R:Nat->List En->List Ga->BR) (fin:List Ga->Tr):Prop where
 e:∀ m xs,R (m+1) [] xs=.ok (fin xs) []
 x:∀ m x r xs,¬(x.col=col/\C9 x.l=bg)->R (m+1) (x::r) xs=Ex col (fin xs) x r
 b:∀ m x r xs no e,x.col=col->C9 x.l=bg->stp m x r=.bad no e->R (m+1) (x::r) xs=.bad no e
 o:∀ m x r xs (z:Ga) t rest,x.col=col->C9 x.l=bg->z.1.1=x->z.2.2=stp m x r->z.2.2=.ok t rest->R (m+1) (x::r) xs=R m rest (xs++[z])
 mu:∀ m x r t rest,stp m x r=.ok t rest->rest<:+r
def Hi (x:Ga):Tr:=match x.2.2 with
 | .ok t _=>t
 | _=>DW
abbrev X1 (stp:Nat->En->List En->BR) (n i:Nat) (x:En) (r:List En):BR:=stp (n - i - 1) x r
section
variable {Wo:Gg} {es0:List En} {col:Int} {bg:Bg} {stp:Nat->En->List En->BR} {R:Nat->List En->List Ga->BR} {fin:List Ga->Tr} (hR:Ahp col bg stp R fin) {n:Nat} (hn:4*Ee es0+1<=n)
include hR hn
theorem XX.told {xs:List Ga} (h:XX Wo es0 col bg (X1 stp n) xs):4*Ee (CU es0 xs)+1+xs.length<=n/\R n es0 []=R (n - xs.length) (CU es0 xs) xs:=by
 induction h with
 | nil=>exact⟨hn,rfl⟩
 | snoc pre x h ha ho ih=>
  obtain⟨t,rest,ho⟩:=ho;obtain⟨y,r,rs⟩:=x;dsimp only at ho;subst ho;obtain⟨h1,h2⟩:=ih;rw[ha.at_] at h1 h2;rw[Mg,h2];rw[AR] at h1;have hm:=LI (hR.mu _ _ _ t rest ha.st.symm);rw[List.length_append,List.length_singleton];dsimp only at h1 hm |-;refine⟨by omega,?_⟩;rw[show n - pre.length=(n - pre.length - 1)+1 by omega,hR.o _ _ _ _ (y,r,.ok t rest) t rest ha.col ha.bg rfl ha.st rfl,show n - (pre.length+1)=n - pre.length - 1 by omega]
theorem XX.bad {pre:List Ga} {x:Ga} {no e:Int} (h:XX Wo es0 col bg (X1 stp n) pre) (ha:BAd Wo es0 col bg (X1 stp n) pre x) (hx:x.2.2=.bad no e):R n es0 []=.bad no e:=by
 obtain⟨h1,h2⟩:=h.told hR hn;rw[ha.at_] at h1 h2;rw[h2,show n - pre.length=(n - pre.length - 1)+1 by omega];exact hR.b _ _ _ _ no e ha.col ha.bg (by rw[<- hx];exact ha.st.symm)
theorem Ae0.told {xs:List Ga} (h:Ae0 Wo es0 col bg (X1 stp n) xs):R n es0 []=match CU es0 xs with | []=>.ok (fin xs) [] | x::r=>Ex col (fin xs) x r:=by
 obtain⟨hc,hf⟩:=h;obtain⟨h1,h2⟩:=hc.told hR hn;rw[h2];obtain⟨l,hl⟩:∃ l,CU es0 xs=l:=⟨_,rfl⟩
 rw[hl] at hf h1 |-;rw[show n - xs.length=(n - xs.length - 1)+1 by omega];cases l with
 | nil=>exact hR.e _ _
 | cons x r=>exact hR.x _ _ _ _ (hf x r rfl)
end
theorem Ajd (col:Int) (d:Nat):Ahp col .dash (fun m x r=>BB m (d+1) x r) (fun m l xs=>BW m col d l (xs.map Hi)) (fun xs=>DZ (xs.map Hi)) where
 e m xs:=by rw[BW]
 x m x r xs h:=by rw[BW];exact if_neg h
 b m x r xs no e h1 h2 h:=by rw[BW,if_pos ⟨h1,h2⟩,h];rfl
 o m x r xs z t rest h1 h2 h3 h4 h5:=by
  rw[BW,if_pos ⟨h1,h2⟩,<- h4,h5,List.map_append,List.map_singleton,show Hi z=t by unfold Hi;rw[h5]];rfl
 mu m x r t rest h:=(H3 m).2.2.1 _ _ _ _ _ h
abbrev Sh (b:Nat):Aj:=blk b [I J 0,Q ⟨#[]⟩,I J 0,I J 0,Q ⟨#[]⟩,Z O 0 0,Z O 0 0] 53
abbrev sqT (b n:Nat) (z:Option Addr×Nat):Aj:=blk b [I J 1,Q ⟨#[]⟩,I J 0,I J 0,Q ⟨#[]⟩,Z O 0 0,Z z.1 n z.2] 53
abbrev SqP:=(Option Addr×Nat)×List TY
abbrev Jd (ys:List TY):List Value:=(ys.map As).flatten
def sqZ (b8:Nat) (pre:List Ga) (z:SqP):List Aj:=[pr (z.2.length=pre.length),star (BE (pre.map Hi) (z.2.map As)),sqT b8 pre.length z.1,Af 53 7 (Z z.1.1 pre.length z.1.2) pre.length (Jd z.2)]
theorem Aer (ys:List TY):(Jd ys).length=ys.length*7:=by
 unfold Jd;rw[N6 _ (fun u hu=>by obtain⟨x,_,rfl⟩:=List.mem_map.1 hu;rfl),List.length_map]
theorem Ak2 (ys:List TY) (y z:TY):AC (Jd ys++As z) (0+ys.length*7) (As y)=F (Jd ys++As y):=by
 rw[Nat.zero_add,<- Aer ys];exact CO (Jd ys) (As z) 0 (As y) (As y) rfl
theorem Acl {C:Nat->Prop} {w0 w:Y} {Zz:List Aj} {b8:Nat} {pre:List Ga} {x:Cn} {r:List Cn} {t:Tr} {rest:List En} {y:TY} {z:SqP} (h:Mem C w0 ([Aq (As y) t,sqT b8 (pre.length+1) z.1,Af 53 7 (Z z.1.1 (pre.length+1) z.1.2) (pre.length+1) (Jd z.2++As y),star (BE (pre.map Hi) (z.2.map As))]++Zz) w) (hl:z.2.length=pre.length):
  Mem C w0 (Hf (fun z=>star (sqZ b8 (pre++[(x,r,.ok t rest)]) z))::Zz) w:=by
 have h1:=E0 (A:=BE (pre.map Hi) (z.2.map As)) (B:=[Aq (As y) t]) (Mem.pk h (.tl (.tl (.tl .hd))));rw[<- FT _ _ _ _ (by rw[List.length_map,List.length_map,hl])] at h1;have h2:=h1.pr (p:=(z.2++[y]).length=pre.length+1) (by rw[List.length_append,hl];rfl);refine Mem.toEx (z.1,z.2++[y]) (Mem.toStar ?_);unfold sqZ;rw[show(pre++[(x,r,BR.ok t rest)]).length=pre.length+1 by simp,show(pre++[(x,r,BR.ok t rest)]).map Hi=pre.map Hi++[t] by simp[Hi],List.map_append,show Jd (z.2++[y])=Jd z.2++As y by unfold Jd;simp];exact h2
end
end Go.Proofs.YtdpppepmkeinaaaGreatDoor
