/- What is proved: a part of the walk of the program and of its plain laws; no condition beside those that each theorem names. -/
import Derived.Test.YtdpppepmkeinaaaGreatDoorYo
import Derived.Test.YtdpppepmkeinaaaGreatDoorYk
import Derived.Test.YtdpppepmkeinaaaGreatDoorYn
import Derived.Test.YtdpppepmkeinaaaGreatDoorYa
import Derived.Stop.Asserts
import Derived.LaidEql
namespace Go.Proofs.YtdpppepmkeinaaaGreatDoor
open Go Go.RowKit Go.Lib
open Go.Value renaming int->I,string->Q,slice->Z
open Go.IntKind renaming i64->J
open Option renaming none->O,some->F
open _root_.Go renaming World->Y
set_option linter.unusedSimpArgs false
set_option linter.unusedVariables false
set_option linter.unusedSectionVars false
section
set_option maxHeartbeats 4000000
open Go Go.RowKit Go.Extern.Stop Go.Stop Go.Extern
set_option maxRecDepth 100000
namespace Ea
variable {T PT:TypeId} {k:Nat} (H:T4 T PT k)
include H
theorem Aja {vs os:List Value} {tb b:Nat} (hvl:vs.length=k) (hol:os.length=k) (h1:vs.all Value.oneCell'=true) (w:Y) (hne:b≠tb) (hb:Cs w b 0 [.pointer (F ⟨tb,0,O⟩)]):
  B9 Tryz.prog 79 #[.iface T (.agg vs.toArray),.iface PT (.pointer (F ⟨tb,0,O⟩)),rv PT b 150,rt T] w (blk tb os T) (fun _:Unit=>.bool true) (fun _=>blk tb vs T):=by
 refine B9.blk fun hX=>?_;refine V.enter _ Tryz.func79 (Mem.startX (Fz:=fun k=>k=tb) (X:=blk tb os T) ⟨rfl,hX⟩ (fun b e=>by subst e;exact(Gl hX))) ?_;refine W ?_;refine R.new fun bx _=>?_
 repeat refine W ?_
 refine V.loop (fun _:Unit=>True) (fun _=>Mem (fun k=>k=tb) w [blk bx [.pointer (F ⟨10,PT,O⟩),.pointer (F ⟨b,0,O⟩),.int .u64 150] 170,blk tb os T]) (fun _=>[(0,.iface T (.agg vs.toArray)),(1,.iface PT (.pointer (F ⟨tb,0,O⟩))),(3,rt T),(6,.pointer (F ⟨bx,0,O⟩))]) (fun _=>0) () trivial (fun w h=>h) ⟨rfl,rfl,rfl,rfl,trivial⟩ ?_;intro _ _
 repeat refine W ?_
 refine R.xp (v:=rt T) ?_ ?_
 ·intro ρ w h hm;simp only[Op.operands,Call.operands,EV,Array.toList_append,List.toList_toArray,List.map_cons,List.map_nil,List.nil_append,List.cons_append] at h;simp[go_sem,h,QW,H.typeOfE]
 repeat refine W ?_
 refine R.xp (v:=.bool true) ?_ ?_
 ·intro ρ w h hm;simp only[Op.operands,Call.operands,EV,Array.toList_append,List.toList_toArray,List.map_cons,List.map_nil,List.nil_append,List.cons_append] at h;simp[go_sem,h,Aj3,H.assE,Aky]
 repeat refine W ?_
 refine R.xp (v:=rv T tb 409) ?_ ?_
 ·intro ρ w h hm;simp only[Op.operands,Call.operands,EV,Array.toList_append,List.toList_toArray,List.map_cons,List.map_nil,List.nil_append,List.cons_append] at h;simp[go_sem,h,Adn,U2 H (hm.1.cell (hb 0 _ rfl) hne)]
 repeat refine W ?_
 refine R.xn (v:=fun b=>rv T b 153) (cs:=vs) (bt:=T) ?_ (fun be _=>?_)
 ·intro ρ w h;simp only[Op.operands,Call.operands,EV,Array.toList_append,List.toList_toArray,List.map_cons,List.map_nil,List.nil_append,List.cons_append] at h;simp[go_sem,h,Ni,H.valueOfE vs _ hvl]
 refine R.xe (ι:=Unit) (v:=fun _=>.tuple #[]) (A':=fun _=>[blk tb vs T,blk be vs T,blk bx [.pointer (F ⟨10,PT,O⟩),.pointer (F ⟨b,0,O⟩),.int .u64 150] 170]) (fun ρ w h hm=>?_) (fun _=>?_)
 ·obtain⟨Fz,⟨f1,f2⟩,f3,f4⟩:=hm.own (Pk.tl (Pk.tl Pk.hd));obtain⟨w',k1,k2,k3,k4⟩:=Agk H hvl hol h1 (Cs.of_blk (hm.blk (List.Mem.head _))) f2;simp only[Op.operands,Call.operands,EV,Array.toList_append,List.toList_toArray,List.map_cons,List.map_nil,List.nil_append,List.cons_append] at h;exact⟨(),w',by simp[go_sem,h,Aj5,k1],f4 (blk tb vs T) Fz w' ⟨f1,k2⟩ (k3.less fun b e=>by subst e;exact f1) (fun b hb=>⟨by rw[k4];exact(f3 b hb).1,.inl hb⟩)⟩
 repeat refine W ?_
 refine V.end fun w' h'=>?_;exact⟨(),rfl,h'.1,h'.blk (List.Mem.head _)⟩
theorem LS {vs os:List Value} {tb:Nat} (hvl:vs.length=k) (hol:os.length=k) (h1:vs.all Value.oneCell'=true) (w:Y) (hg:w.cell? ⟨0,0,O⟩=F (rt 61)) (hne:0≠tb):
  B9 Tryz.prog 52 #[.iface T (.agg vs.toArray),.iface PT (.pointer (F ⟨tb,0,O⟩))] w (blk tb os T) (fun _:Unit=>.bool true) (fun _=>blk tb vs T):=by
 refine B9.blk fun hX=>?_;have hcg:Cs w 0 0 [rt 61]:=fun j u hj=>by
  match j,hj with
  | 0,hj=>cases hj;exact hg
 refine V.enter _ Tryz.func52 (Mem.startX (Fz:=fun k=>k=tb) (X:=blk tb os T) ⟨rfl,hX⟩ (fun b e=>by subst e;exact(Gl hX))) ?_
 repeat refine W ?_
 refine R.xn (v:=fun b=>rv PT b 150) (cs:=[.pointer (F ⟨tb,0,O⟩)]) (bt:=PT) ?_ (fun bp hbp=>?_)
 ·intro ρ w h;simp only[Op.operands,Call.operands,EV,Array.toList_append,List.toList_toArray,List.map_cons,List.map_nil,List.nil_append,List.cons_append] at h;simp[go_sem,h,Ni,H.valueOfP]
 refine R.new fun b5 _=>?_
 repeat refine W ?_
 refine R.xp (v:=rt PT) ?_ ?_
 ·intro ρ w h hm;simp only[Op.operands,Call.operands,EV,Array.toList_append,List.toList_toArray,List.map_cons,List.map_nil,List.nil_append,List.cons_append] at h;simp[go_sem,h,Ag8,H.typeP]
 repeat refine W ?_
 refine R.xp (v:=.int .u8 22) ?_ ?_
 ·intro ρ w h hm;simp only[Op.operands,Call.operands,EV,Array.toList_append,List.toList_toArray,List.map_cons,List.map_nil,List.nil_append,List.cons_append] at h;simp[go_sem,h,Aal,Af7,H.kindP]
 repeat refine W ?_
 refine R.xp (v:=.bool false) ?_ ?_
 ·intro ρ w h hm;simp only[Op.operands,Call.operands,EV,Array.toList_append,List.toList_toArray,List.map_cons,List.map_nil,List.nil_append,List.cons_append] at h;simp[go_sem,h,Aeb,Th H (Cs.of_blk (hm.blk (List.Mem.tail _ (List.Mem.head _))) 0 _ rfl)]
 repeat refine W ?_
 refine R.xp (v:=rt T) ?_ ?_
 ·intro ρ w h hm;simp only[Op.operands,Call.operands,EV,Array.toList_append,List.toList_toArray,List.map_cons,List.map_nil,List.nil_append,List.cons_append] at h;simp[go_sem,h,Agn,Ajw,H.elemP]
 repeat refine W ?_
 refine R.xp (v:=.int .u8 25) ?_ ?_
 ·intro ρ w h hm;simp only[Op.operands,Call.operands,EV,Array.toList_append,List.toList_toArray,List.map_cons,List.map_nil,List.nil_append,List.cons_append] at h;simp[go_sem,h,Aal,Af7,H.kindE]
 repeat refine W ?_
 refine R.lo 0 hcg ?_ hne
 repeat refine W ?_
 refine R.xp (v:=.bool true) ?_ ?_
 ·intro ρ w h hm;simp only[Op.operands,Call.operands,EV,Array.toList_append,List.toList_toArray,List.map_cons,List.map_nil,List.nil_append,List.cons_append] at h;simp[go_sem,h,Ajr,Ak9,H.impE]
 repeat refine W ?_
 refine R.cw (X:=blk tb os T) (v:=fun _:Unit=>.bool true) (X':=fun _=>blk tb vs T) (fun w' h'=>Aja H hvl hol h1 w' (fun e=>?_) (Cs.of_blk (h'.blk (List.Mem.tail _ (List.Mem.head _))))) (fun _=>?_)
 ·have:=(Gl hX);omega
 repeat refine W ?_
 refine V.end fun w' h'=>?_;exact⟨(),rfl,h'.1,h'.blk (List.Mem.head _)⟩
end Ea
end
section
open Go Go.RowKit Go.Extern.Stop Go.Stop Go.Extern
set_option maxRecDepth 100000
namespace Ea
def ErrC (w:Y):Prop:=w.cell? ⟨0,0,O⟩=F (rt 61)
theorem ErrC.to {C:Nat->Prop} {w w':Y} (h:ErrC w) (hx:AI C w w') (hn:¬C 0):ErrC w':=hx.cell h hn
theorem Uh (v:Value) (w:Y):Calls Tryz.prog 52 #[.nilIface,v] w fun ev w'=>ev=.returned (.bool false)/\Below w.heap.size w w':=by
 refine V.enter _ Tryz.func52 (Mem.start (C:=Ao) w) ?_
 repeat refine W ?_
 refine V.end fun w' h'=>?_;exact⟨rfl,h'.1.below⟩
theorem asA:T4 118 119 2 where
 valueOfP _ _:=by kernel_rfl
 typeP _ _:=by kernel_rfl
 kindP _:=by kernel_rfl
 kindE _:=by kernel_rfl
 partsP _ _:=by kernel_rfl
 undP:=by kernel_rfl
 elemP _:=by kernel_rfl
 impE _:=by kernel_rfl
 typeOfE _ _:=by kernel_rfl
 assE _:=by kernel_rfl
 valueOfE vs w h:=by rcases vs with _ | ⟨a,_ | ⟨b,_ | ⟨c,r⟩⟩⟩<;>first | (simp at h;done) | kernel_rfl
 elemOfP _:=by kernel_rfl
 mkE _ _:=by kernel_rfl
 partsA _ _:=by kernel_rfl
 partsE _ _:=by kernel_rfl
 dirE _:=by kernel_rfl
 sizeE _:=by kernel_rfl
 aggE _:=by kernel_rfl
theorem asL:T4 104 106 2 where
 valueOfP _ _:=by kernel_rfl
 typeP _ _:=by kernel_rfl
 kindP _:=by kernel_rfl
 kindE _:=by kernel_rfl
 partsP _ _:=by kernel_rfl
 undP:=by kernel_rfl
 elemP _:=by kernel_rfl
 impE _:=by kernel_rfl
 typeOfE _ _:=by kernel_rfl
 assE _:=by kernel_rfl
 valueOfE vs w h:=by rcases vs with _ | ⟨a,_ | ⟨b,_ | ⟨c,r⟩⟩⟩<;>first | (simp at h;done) | kernel_rfl
 elemOfP _:=by kernel_rfl
 mkE _ _:=by kernel_rfl
 partsA _ _:=by kernel_rfl
 partsE _ _:=by kernel_rfl
 dirE _:=by kernel_rfl
 sizeE _:=by kernel_rfl
 aggE _:=by kernel_rfl
theorem asC:T4 229 231 1 where
 valueOfP _ _:=by kernel_rfl
 typeP _ _:=by kernel_rfl
 kindP _:=by kernel_rfl
 kindE _:=by kernel_rfl
 partsP _ _:=by kernel_rfl
 undP:=by kernel_rfl
 elemP _:=by kernel_rfl
 impE _:=by kernel_rfl
 typeOfE _ _:=by kernel_rfl
 assE _:=by kernel_rfl
 valueOfE vs w h:=by rcases vs with _ | ⟨a,_ | ⟨b,r⟩⟩<;>first | (simp at h;done) | kernel_rfl
 elemOfP _:=by kernel_rfl
 mkE _ _:=by kernel_rfl
 partsA _ _:=by kernel_rfl
 partsE _ _:=by kernel_rfl
 dirE _:=by kernel_rfl
 sizeE _:=by kernel_rfl
 aggE _:=by kernel_rfl
theorem a_told (no e:Int) (w:Y) (hg:ErrC w):Calls Tryz.prog 43 #[.iface 118 (.agg #[I J no,I J e])] w fun ev w'=>ev=.returned (.tuple #[I J no,I J e])/\Below w.heap.size w w':=by
 refine V.enter _ Tryz.func43 (Mem.start (C:=Ao) w) ?_
 repeat refine W ?_
 refine R.new fun tb htb=>?_
 repeat refine W ?_
 refine R.cw (X:=blk tb [I J 0,I J 0] 118) (v:=fun _:Unit=>.bool true) (X':=fun _=>blk tb [I J no,I J e] 118) (fun w' h'=>LS asA (vs:=[I J no,I J e]) rfl rfl rfl w' (h'.1.cell hg fun e=>e) (fun e=>by have:=FV hg;omega)) (fun _=>?_)
 repeat refine W ?_
 refine V.end fun w' h'=>?_;exact⟨rfl,h'.1.below⟩
theorem a_told0 (w:Y):Calls Tryz.prog 43 #[.nilIface] w fun ev w'=>ev=.returned (.tuple #[I J 0,I J 0])/\Below w.heap.size w w':=by
 refine V.enter _ Tryz.func43 (Mem.start (C:=Ao) w) ?_
 repeat refine W ?_
 refine R.new fun tb htb=>?_
 repeat refine W ?_
 refine R.c (fun w' h'=>Uh _ w') ?_
 repeat refine W ?_
 refine V.end fun w' h'=>?_;exact⟨rfl,h'.1.below⟩
theorem l_told (no e:Int) (w:Y) (hg:ErrC w):Calls Tryz.prog 27 #[.iface 104 (.agg #[I J no,I J e])] w fun ev w'=>ev=.returned (.tuple #[I J no,I J e])/\Below w.heap.size w w':=by
 refine V.enter _ Tryz.func27 (Mem.start (C:=Ao) w) ?_
 repeat refine W ?_
 refine R.new fun tb htb=>?_
 repeat refine W ?_
 refine R.cw (X:=blk tb [I J 0,I J 0] 104) (v:=fun _:Unit=>.bool true) (X':=fun _=>blk tb [I J no,I J e] 104) (fun w' h'=>LS asL (vs:=[I J no,I J e]) rfl rfl rfl w' (h'.1.cell hg fun e=>e) (fun e=>by have:=FV hg;omega)) (fun _=>?_)
 repeat refine W ?_
 refine V.end fun w' h'=>?_;exact⟨rfl,h'.1.below⟩
theorem l_told0 (w:Y):Calls Tryz.prog 27 #[.nilIface] w fun ev w'=>ev=.returned (.tuple #[I J 0,I J 0])/\Below w.heap.size w w':=by
 refine V.enter _ Tryz.func27 (Mem.start (C:=Ao) w) ?_
 repeat refine W ?_
 refine R.new fun tb htb=>?_
 repeat refine W ?_
 refine R.c (fun w' h'=>Uh _ w') ?_
 repeat refine W ?_
 refine V.end fun w' h'=>?_;exact⟨rfl,h'.1.below⟩
end Ea
end
section
open Go Go.RowKit Go.Extern.Stop Go.Stop Go.Extern
set_option maxRecDepth 100000
section
variable {P:Program} {n:Nat} {ds:List Deferred} {d:Bool} {ops:Array Oper} {K:Act->Y->Prop} {i:Nat} {pl pend:List Nat} {S:Y->Prop} {l:Env} {t:Nat} {ty:TypeId} {ps:String} {af:Array Edge} {gd:Option (Nat×Bool)}
theorem R.ta {x:Operand} {xt tt:TypeId} {ok:Bool} {u v:Value} (hE:∀ w,(Instr.typeAssert u xt tt ok).run P w=.ok v w) (h:Rj P n ds d ops K pl pend S ((t,v)::l)) (ho:Aw ops.toList i=F ⟨F t,.typeAssert x xt tt ok,ty,ps,af,gd⟩:=by rfl) (hx:ev l x=F u:=by rfl) (hg:Cv ops.toList l gd=F true:=by rfl):Rj P n ds d ops K (i::pl) pend S l:=
 R.takeP ho hg rfl (by rw[if_pos rfl];intro a' w ha;simp[execOp,ha.ev hx,hE,Sem.run_bind,Sem.run,pure]) h
theorem R.bi {o:BinOp} {x y:Operand} {tt t2:TypeId} {a b v:Value} (hE:∀ w,(binOp o tt a b).run P w=.ok v w) (h:Rj P n ds d ops K pl pend S ((t,v)::l)) (ho:Aw ops.toList i=F ⟨F t,.binOp o tt x y t2,ty,ps,af,gd⟩:=by rfl) (hx:ev l x=F a:=by rfl) (hy:ev l y=F b:=by rfl) (hG:∀ w,(eqGuard o tt x y a b).run P w=.ok () w:=by intro w;rfl) (hg:Cv ops.toList l gd=F true:=by rfl):Rj P n ds d ops K (i::pl) pend S l:=
 R.takeP ho hg rfl (by rw[if_pos rfl];intro a' w ha;simp[execOp,ha.ev hx,ha.ev hy,hG,hE,Sem.run_bind,Sem.run,pure]) h
end
section
variable {P:Program} {n:Nat} {ds:List Deferred} {d:Bool} {ops:Array Oper} {K:Act->Y->Prop} {i:Nat} {pl pend:List Nat} {l:Env}
 {t:Nat} {ty:TypeId} {ps:String} {af:Array Edge} {gd:Option (Nat×Bool)} {C:Nat->Prop} {w0:Y} {A:List Aj}
theorem R.ci {v u u':Value} {f:FuncId} {T:TypeId} {fn:Operand} {nm:String} {args:List Operand} {ts:Array TypeId} {vs aa:List Value}
  (hc:∀ w,Mem C w0 A w->Calls P f aa.toArray w fun e w'=>e=.returned v/\Below w.heap.size w w') (hm:∀ w,(Go.method (P.types.size+Made.depth) T u nm).run P w=.ok (f,u') w) (hn:∀ w,(nilAhead (P.types.size+Made.depth) T u nm).run P w=.ok (F false) w) (h:Rj P n ds d ops K pl pend (Mem C w0 A) ((t,v)::l))
  (ho:Aw ops.toList i=F ⟨F t,.call {callee:=.invoke fn nm,args:=args.toArray,argTypes:=ts},ty,ps,af,gd⟩:=by rfl) (hf:ev l fn=F (.iface T u):=by rfl) (hs:evs l args=F vs:=by rfl) (he:u'::vs=aa:=by rfl) (hr:∀ args w,(callFunc f args).run P w=.ok (.enter f args) w:=by intro args w;simp;first | done | fail)
  (hg:Cv ops.toList l gd=F true:=by rfl):Rj P n ds d ops K (i::pl) pend (Mem C w0 A) l:=
 R.eff (ι:=Unit) (Si:=fun _=>Mem C w0 A) (li:=fun _=>(t,v)::l) ho hg rfl (fun a w K' ha hd hw hk=>by
  have h1:(args.toArray).map a.eval=vs.toArray:=by rw[List.map_toArray,(ha.evs _ _ hs).2]
  have:(execOp a.eval ⟨F t,.call {callee:=.invoke fn nm,args:=args.toArray,argTypes:=ts},ty,ps,af,gd⟩).run P w=.ok (.enter f aa.toArray) w:=by
   have h0:#[u']++vs.toArray=aa.toArray:=by rw[<- he];simp
   rw[<- h0];simp[execOp,resolve,invoke,callMethod,h1,ha.ev hf,Sem.run_bind,hm,hn,hr,program,Sem.run,pure]
  unfold Eo;rw[this];exact(hc w hw).mono (by rintro e w' ⟨rfl,hb⟩;exact⟨_,rfl,hk () _ _ (hw.below hb) (hd _)⟩)) (.inr (.inr ⟨rfl,fun _ _ h=>h⟩)) (fun _=>h)
end
namespace Ea
def cwV (e:Int):Value:=.iface 229 (.agg #[I J e])
def etV (p:Addr):Value:=.iface 382 (.pointer (F p))
def ErrS (w:Y) (p:Addr):Prop:=w.cell? ⟨1,0,O⟩=F (etV p)
theorem ErrS.cs {w:Y} {p:Addr} (h:ErrS w p):Cs w 1 0 [etV p]:=fun j u hj=>by
 match j,hj with
 | 0,hj=>cases hj;exact h
theorem TE (e:Int) (p:Addr) (w:Y) (h:ErrS w p):Calls Tryz.prog 328 #[.agg #[I J e]] w fun ev w'=>ev=.returned (etV p)/\Below w.heap.size w w':=by
 refine V.enter _ Tryz.func328 (Mem.start (C:=Ao) w) ?_
 repeat (first | refine W ?_ | refine R.new fun _ _=>?_)
 refine R.lo 0 h.cs ?_
 repeat refine W ?_
 refine V.end fun w' h'=>?_;exact⟨rfl,h'.1.below⟩
theorem Ajv (v:Value) (w:Y):(Instr.typeAssert (.iface 229 v) 61 345 true).run Tryz.prog w=.ok (.tuple #[.nilIface,.bool false]) w:=run_typeAssert_lacksB Tryz.underlying345 (by kernel_rfl) (by kernel_rfl) v _ w
theorem Ajq (v:Value) (w:Y):(Instr.typeAssert (.iface 229 v) 61 241 true).run Tryz.prog w=.ok (.tuple #[.iface 229 v,.bool true]) w:=by kernel_rfl
theorem Alc (v:Value) (w:Y):(Go.method 587 229 v "Unwrap").run Tryz.prog w=.ok (328,v) w:=by kernel_rfl
theorem Ald (v:Value) (w:Y):(nilAhead 587 229 v "Unwrap").run Tryz.prog w=.ok (F false) w:=by kernel_rfl
theorem Ai1 (h:Value) (w:Y):(Go.method 587 233 (.agg #[h]) "Comparable").run Tryz.prog w=.ok (331,.agg #[h]) w:=by kernel_rfl
theorem Ahg (w:Y):(callFunc 331 #[.agg #[.pointer (F ⟨10,382,O⟩)]]).run Tryz.prog w=.ok (.value (.bool true)) w:=by kernel_rfl
theorem Acr (p:Addr) (w:Y):(ReflectliteType.typeOf #[etV p]).run Tryz.prog w=.ok (rt 382) w:=by kernel_rfl
theorem eql_diff (e:Int) (p:Addr) (w:Y):(binOp .eql 61 (cwV e) (etV p)).run Tryz.prog w=.ok (.bool false) w:=run_eql_iface_types _ _ _ _ Tryz.underlying61 (by decide) w
theorem Yy (p:Addr) (w:Y):(binOp .eql 61 (etV p) (etV p)).run Tryz.prog w=.ok (.bool true) w:=run_eql_iface_ptr_same (i:=Tryz.t382) (j:=Tryz.t384) w p Tryz.underlying61 Tryz.underlying382 (by kernel_rfl) (by kernel_rfl) (by kernel_rfl)
end Ea
end
section
def Does {ι:Type} (P:Program) (n:Nat) (ds:List Deferred) (o:Oper) (S:Y->Prop) (l:Env) (Si:ι->Y->Prop) (li:ι->Env):Prop:=
 ∀ a w (K':Act->Y->Prop),Kn n ds l a->(∀ v,Kn n ds (addl l o.dst v) (a.put o.dst v))->S w->(∀ x v w',Si x w'->Kn n ds (li x) (a.put o.dst v)->K' (a.put o.dst v) w')->Eo P o a w K'
section
variable {P:Program} {n:Nat} {ds:List Deferred} {d:Bool} {ops:Array Oper} {K:Act->Y->Prop} {i:Nat} {T T1 T2 R1 R2 pl pend:List Nat} {l:Env} {Zf S:Y->Prop}
 {t:Nat} {ty:TypeId} {ps:String} {af:Array Edge} {gd:Option (Nat×Bool)} {C:Nat->Prop} {w0:Y} {A A':List Aj}
theorem Zz.do {ι:Type} {o:Oper} {Si:ι->Y->Prop} {li:ι->Env} (ho:Aw ops.toList i=F o:=by rfl) (hd:Does P n ds o S l Si li) (h:∀ x,Rz P n ds d ops K T pl pend Zf (Si x) (li x)) (hz:∀ x w,Si x w->Zf w:=by exact fun x w h=>h.sel) (hg:Cv ops.toList l o.guard=F true:=by rfl) (hq:quiet P o.op=false:=by first | rfl | kernel_rfl):Rz P n ds d ops K T (i::pl) pend Zf S l:=
 Zz.eff ho hg hq hd hz h
theorem Zz.fk {α β:Type} (i j:Nat) {oi oj:Oper} {S1:α->Y->Prop} {l1:α->Env} {S2:β->Y->Prop} {l2:β->Env} (hi:Aw ops.toList i=F oi:=by rfl) (hj:Aw ops.toList j=F oj:=by rfl) (d1:Does P n ds oi S l S1 l1) (d2:Does P n ds oj S l S2 l2)
  (h1:∀ x,Rz P n ds true ops K R1 T1 pend Zf (S1 x) (l1 x)) (h2:∀ x,Rz P n ds true ops K R2 T2 pend Zf (S2 x) (l2 x)) (hgi:oi.guard=O:=by rfl) (hgj:oj.guard=O:=by rfl)
  (p1:∀ x w,S1 x w->Zf w:=by exact fun x w h=>h.sel) (p2:∀ x w,S2 x w->Zf w:=by exact fun x w h=>h.sel) (hck:LV P ops n i j T T1 T2 R1 R2=true:=by kernel_rfl):Rz P n ds true ops K T [] pend Zf S l:=
 Zz.fork hi hj hgi hgj hck d1 d2 p1 p2 h1 h2
theorem Zz.clr {ι:Type} {o:Oper} {Si:ι->Y->Prop} {li:ι->Env} (Zg:Y->Prop) (ho:Aw ops.toList i=F o:=by rfl) (hd:Does P n ds o S l Si li) (h:∀ x,Rz P n ds true ops K T pl [] Zg (Si x) (li x)) (hp:(pend.all fun k=>(List.range ops.size).any fun m=>(lst ops (pl++T)).getD m false&&(Cp ops m k&&(match ops[m]? with | some o=> !quiet P o.op | none=>false)))=true:=by kernel_rfl) (hg:Cv ops.toList l o.guard=F true:=by rfl) (hq:quiet P o.op=false:=by first | rfl | kernel_rfl):Rz P n ds true ops K T (i::pl) pend Zf S l:=by
 intro hok;obtain⟨hok',o',ho',hdi⟩:=Oo hok;rw[DB,Array.getElem?_toList] at ho;rw[ho] at ho';cases ho'
 have h:=fun x=>h x hok';dsimp only at h |-;intro Rs hRs a w ha hw;show D6 P .any ops K (Tm P ops Rs pend) ((pl++T).length+1) (lst ops (i::(pl++T))) a w;unfold K0 at hok;rw[Bool.and_eq_true] at hok;obtain⟨hcn,_,hre,_⟩:=KF hok.1 ho;have hr:=hre hq;have hlt:i<ops.size:=(Gl ho)
 have hget:((lst ops (i::(pl++T))).setIfInBounds i true).getD i false=true:=by
  rw[Array.getD_eq_getD_getElem?,Array.getElem?_setIfInBounds_self_of_lt (by rw[CZ];exact hlt)];rfl
 refine⟨(fun h0=>by rw[hr] at h0;cases h0),?_⟩;rw[hr];intro j hj;obtain rfl:j=i:=by simpa using hj
 unfold K5;rw[ho];dsimp only
 rw[BY ha hg,if_pos rfl];refine hd a w _ ha (ha.addl hdi) hw (fun x v w' hs hk=>?_);have:=h x Rs (fun j hj=>by cases hj) _ w' hk hs;rw[<- Ef hcn] at this;have hall:∀ L w,(∀ m,(lst ops (pl++T)).getD m false=true->L.getD m false=true)->Tm P ops Rs pend L w:=fun L w hL k hk hmm=>by
  obtain⟨m,hm1,hm2⟩:=List.any_eq_true.1 (List.all_eq_true.1 hp k hk);rw[Bool.and_eq_true,Bool.and_eq_true] at hm2;obtain⟨g1,g2,g3⟩:=hm2;cases hom:ops[m]? with
  | none=>rw[hom] at g3;cases g3
  | some om=>
   rw[hom] at g3;have h1:=hmm m om hom (by simpa using g3) (hL m g1);rw[h1] at g2;cases g2
 rw[Ef hcn] at this |-;exact⟨hall _ _ (fun _ h=>h),Er (fun L=>∀ m,(lst ops (pl++T)).getD m false=true->L.getD m false=true) (fun L i h m hm=>getD_set_true (h m hm)) (fun L w hL _=>hall L w hL) _ _ _ _ (fun _ h=>h) this⟩
theorem D.st {x y:Operand} {tt bt:TypeId} {b o:Nat} {v:Value} {cs cs':List Value} (hx:ev l x=F (.pointer (F ⟨b,o,O⟩)):=by rfl) (hy:ev l y=F v:=by rfl) (hr:Dt (blk b cs bt) (blk b cs' bt) A A':=by(repeat (first | exact Dt.hd | apply Dt.tl));first | done | fail) (hv:AC cs o v.cells.toList=F cs':=by rfl) (ho1:v.cells.toList.all Value.oneCell'=true:=by rfl) (hs:∀ w,(sizeOf tt).run P w=.ok v.cells.size w:=by intro w;simp;(try rfl);first | done | fail):
  Does P n ds ⟨O,.store tt x y,ty,ps,af,gd⟩ (Mem C w0 A) l (fun _:Unit=>Mem C w0 A') (fun _=>l):=fun a w K' ha hd hw hk=>by
  obtain⟨G,⟨g1,g2⟩,g3,g4⟩:=hw.rep hr;obtain⟨w',k1,k2,k3,k4⟩:=F7 (P:=P) v.cells.toList 0 cs cs' w g2 hv ho1;unfold Eo;have:(execOp a.eval ⟨O,.store tt x y,ty,ps,af,gd⟩).run P w=.ok .skip w':=by
   simp only[execOp,ha.ev hx,ha.ev hy,Sem.run_bind,Instr.storeAt,Instr.sureAddr,storeVar]
   simp[Sem.run_bind,hs w,k1,pure,Sem.run]
  rw[this];exact hk () undef w' (g4 G w' ⟨g1,k2⟩ (k3.sub (fun k _ e=>by subst e;exact g1)) (fun k hk=>⟨by rw[k4];exact(g3 k hk).1,.inl hk⟩)) ha
theorem D.sw {x y:Operand} {tt e:TypeId} {b o c sz gn:Nat} {v:Value} {xs xs':List Value} (hv:AC xs o v.cells.toList=F xs') (hx:ev l x=F (.pointer (F ⟨b,o,O⟩)):=by rfl) (hy:ev l y=F v:=by rfl)
  (hr:Dt (Af e sz (Z (F ⟨b,0,O⟩) gn c) gn xs) (Af e sz (Z (F ⟨b,0,O⟩) gn c) gn xs') A A':=by(repeat (first | exact Dt.hd | apply Dt.tl));first | done | fail) (ho1:v.cells.toList.all Value.oneCell'=true:=by rfl) (hs:∀ w,(sizeOf tt).run P w=.ok v.cells.size w:=by intro w;simp;(try rfl);first | done | fail):
  Does P n ds ⟨O,.store tt x y,ty,ps,af,gd⟩ (Mem C w0 A) l (fun _:Unit=>Mem C w0 A') (fun _=>l):=fun a w K' ha hd hw hk=>by
  obtain⟨G,⟨⟨g1,g2⟩,g0⟩,g3,g4⟩:=hw.rep hr;rcases g2 with ⟨g2,_⟩ | ⟨g,cap,cur,hvv,q1,q2,q3,q4,q5,q6⟩
  ·cases g2
  cases hvv
  have hcur:cur.toList=xs++cur.toList.drop (gn*sz):=by rw[<- q6,List.take_append_drop]
  have hse:=Gk xs o v.cells.toList xs' (cur.toList.drop (gn*sz)) hv;have hl:=Iy _ _ _ _ hv;obtain⟨w',k1,k2,k3,k4⟩:=F7 (P:=P) v.cells.toList 0 cur.toList _ w (by rw[Array.toArray_toList];exact q2) (by rw[hcur];exact hse) ho1;unfold Eo;have:(execOp a.eval ⟨O,.store tt x y,ty,ps,af,gd⟩).run P w=.ok .skip w':=by
   simp only[execOp,ha.ev hx,ha.ev hy,Sem.run_bind,Instr.storeAt,Instr.sureAddr,storeVar]
   simp[Sem.run_bind,hs w,k1,pure,Sem.run]
  rw[this];refine hk () undef w' (g4 G w' ⟨⟨by rw[hl];exact g1,.inr ⟨b,c,_,rfl,q1,k2,q3,q4,?_,?_⟩⟩,g0⟩ (k3.sub (fun k _ e=>by subst e;exact g0 _ rfl)) (fun k hk=>⟨by rw[k4];exact(g3 k hk).1,.inl hk⟩)) ha
  ·have:=congrArg List.length hcur;rw[Array.length_toList,List.length_append] at this;rw[List.size_toArray,List.length_append,hl];omega
  ·rw[List.toList_toArray,List.take_append_of_le_length (by omega),List.take_of_length_le (by omega)]
theorem D.bs {op:Op} {vs cs:List Value} {bt:TypeId} {m:Nat} (hs:evs l op.operands.toList=F vs:=by rfl)
  (hv:∀ ρ w,EV ρ op.operands.toList vs->(execOp ρ ⟨F t,op,ty,ps,af,gd⟩).run P w=.ok (.value (Z (F ⟨w.heap.size,0,O⟩) m m)) (w.alloc (.cells cs.toArray bt)):=by intro ρ w h;simp only[Op.operands,Call.operands,EV,Array.toList_append,List.toList_toArray,List.map_cons,List.map_nil,List.nil_append,List.cons_append] at h;simp[go_sem,h];(first | rfl | exact⟨rfl,rfl⟩ | skip);first | done | fail):
  Does P n ds ⟨F t,op,ty,ps,af,gd⟩ (Mem C w0 A) l (fun b:{b:Nat // w0.heap.size<=b}=>Mem C w0 (blk b.1 cs bt::A)) (fun b=>(t,Z (F ⟨b.1,0,O⟩) m m)::l):=fun a w K' ha hd hw hk=>by
   unfold Eo;rw[hv a.eval w (ha.evs _ _ hs).1];exact hk ⟨w.heap.size,hw.1.size⟩ _ _ (hw.alloc cs bt) (hd _)
theorem D.app {s x:Operand} {tt e sz bytes k m c:Nat} {ad:Addr} {v:Value} {xs news:List Value} {A':Value->List Aj} (hE:El P tt e sz bytes) (hc:∀ w,Mem C w0 A w->∀ j u,news[j]? =F u->w.cell? (ad.add j)=F u) (hnm:k+m<=1000000)
  (hs:ev l s=F v:=by rfl) (hx:ev l x=F (Z (F ad) m c):=by rfl)
  (hr:∀ v',Dt (Af e sz v k xs) (Af e sz v' (k+m) (xs++news)) A (A' v'):=by intro v';(repeat (first | exact Dt.hd | apply Dt.tl));first | done | fail) (hm:0<m:=by decide) (hl:news.length=m*sz:=by rfl) (h1:news.all Value.oneCell'=true:=by rfl):
  Does P n ds ⟨F t,.call {callee:=.builtin .append,args:=#[s,x],argTypes:=#[tt,tt]},ty,ps,af,gd⟩ (Mem C w0 A) l (fun y:Nat×Nat=>Mem C w0 (A' (Z (F ⟨y.1,0,O⟩) (k+m) y.2))) (fun y=>(t,Z (F ⟨y.1,0,O⟩) (k+m) y.2)::l):=fun a w K' ha hd hw hk=>by
  obtain⟨i0,z,hi,hz,hzs,hsz,hby⟩:∃ i0 z,P.info? e=F i0/\i0.zero=F z/\z.cells.size=sz/\i0.size=sz/\i0.bytes=bytes:=by
   have:=hE.info;cases hi:P.info? e with
   | none=>rw[hi] at this;cases this
   | some i0=>
    rw[hi] at this;simp only[Option.map_some,Option.some.injEq,Prod.mk.injEq] at this;obtain⟨h1,h2,h3⟩:=this;cases hz:i0.zero with
    | none=>rw[hz] at h1;cases h1
    | some z=>rw[hz] at h1;simp at h1;exact⟨i0,z,rfl,hz,h1,h2,h3⟩
  obtain⟨G,⟨g1,g2⟩,g3,_⟩:=hw.rep (hr v);have hcs:=hc w hw;have hnews:=hcs;obtain⟨v',w',hrun,k1,k2,_,k4⟩:=run_append_own_at (P:=P) w 0 tt ty e i0 z sz bytes hE.und hi hz hsz hby hzs hE.pos v k xs g1 ad m c news hl hnews (fun u hu=>List.all_eq_true.1 h1 u hu) (by unfold maxLen;omega)
   (Nat.le_trans (Nat.mul_le_mul hnm hE.small) (by decide)) (Nat.zero_le _)
  obtain⟨G2,⟨_,i2⟩,i3,i4⟩:=hw.rep (hr v');obtain⟨a',c',hv'⟩:∃ a' c',v'=Z (F ⟨a',0,O⟩) (k+m) c':=by
   rcases k1.2 with ⟨e1,e2⟩ | ⟨g,cap,cur,e1,_⟩
   ·omega
   ·exact⟨_,cap,e1⟩
  subst hv';have hm:Mem C w0 (A' (Z (F ⟨a',0,O⟩) (k+m) c')) w':=by
   refine i4 (fun b=>(Value.slice (F ⟨a',0,O⟩) (k+m) c').ownBlock=F b) w' ⟨k1,fun b hb=>hb⟩ ⟨k2.os,k2.tape,k2.output,k2.size,fun b hb hn=>k2.block b hb (fun e=>hn (i2 b e.symm))⟩ (fun b hb=>⟨?_,?_⟩)
   ·rcases k1.2 with ⟨e1,_⟩ | ⟨g,cap,cur,e1,_,hg,_⟩
    ·rw[e1] at hb;cases hb
    ·rw[e1] at hb;cases hb;exact(Gl hg)
   ·rcases k4 with k4 | k4
    ·exact .inl (i2 b (k4.symm.trans hb))
    ·rw[k4] at hb;cases hb;exact .inr Nr
  unfold Eo;have:(execOp a.eval ⟨F t,.call {callee:=.builtin .append,args:=#[s,x],argTypes:=#[tt,tt]},ty,ps,af,gd⟩).run P w=.ok (.value (Z (F ⟨a',0,O⟩) (k+m) c')) w':=by
   simp[execOp,resolve,invoke,builtin,Sem.run_bind,pure,ha.ev hs,ha.ev hx,hrun]
  rw[this];exact hk (a',c') _ _ hm (hd _)
theorem D.ci {v u u':Value} {f:FuncId} {U:TypeId} {fn:Operand} {nm:String} {args:List Operand} {ts:Array TypeId} {vs aa:List Value}
  (hc:∀ w,Mem C w0 A w->Calls P f aa.toArray w fun e w'=>e=.returned v/\Below w.heap.size w w') (hm:∀ w,(Go.method (P.types.size+Made.depth) U u nm).run P w=.ok (f,u') w) (hn:∀ w,(nilAhead (P.types.size+Made.depth) U u nm).run P w=.ok (F false) w)
  (hf:ev l fn=F (.iface U u):=by rfl) (hs:evs l args=F vs:=by rfl) (he:u'::vs=aa:=by rfl) (hr:∀ args w,(callFunc f args).run P w=.ok (.enter f args) w:=by intro args w;simp;first | done | fail):
  Does P n ds ⟨F t,.call {callee:=.invoke fn nm,args:=args.toArray,argTypes:=ts},ty,ps,af,gd⟩ (Mem C w0 A) l (fun _:Unit=>Mem C w0 A) (fun _=>(t,v)::l):=fun a w K' ha hd hw hk=>by
  have h1:(args.toArray).map a.eval=vs.toArray:=by rw[List.map_toArray,(ha.evs _ _ hs).2]
  have:(execOp a.eval ⟨F t,.call {callee:=.invoke fn nm,args:=args.toArray,argTypes:=ts},ty,ps,af,gd⟩).run P w=.ok (.enter f aa.toArray) w:=by
   have h0:#[u']++vs.toArray=aa.toArray:=by rw[<- he];simp
   rw[<- h0];simp[execOp,resolve,invoke,callMethod,h1,ha.ev hf,Sem.run_bind,hm,hn,hr,program,Sem.run,pure]
  unfold Eo;rw[this];exact(hc w hw).mono (by rintro e w' ⟨rfl,hb⟩;exact⟨_,rfl,hk () _ _ (hw.below hb) (hd _)⟩)
end
end
section
set_option maxHeartbeats 16000000
set_option maxRecDepth 100000
theorem elT:El Tryz.prog 51 53 7 104:=⟨by kernel_rfl,by kernel_rfl,by decide,by decide⟩
def Jc (b2 b3 r d:Nat):Aj:=star [blk b2 [.pointer (F ⟨r,0,O⟩)] 394,blk b3 [I J d] 3]
def Xn (wB:Y) (A:Option Addr) (c:Nat) (l:List BX) (m d:Nat):Prop:=∀ q,q<=l.length->2*(l.length - q)+1<=m->XW wB A c l 257 q d (Bl m d (at_ l q))
section
variable {wB:Y} {A:Option Addr} {c:Nat} {l:List BX}
theorem Pu (hP:M5 wB A l) (b2 b3 r d q:Nat) (hd:d<=24) (res:FR) (hV:XW wB A c l 257 q (d+1) res) (w:Y) (hB:Below wB.heap.size wB w):
  BT Tryz.prog 284 #[.pointer (F ⟨b2,0,O⟩),.pointer (F ⟨b3,0,O⟩)] w (star [Jc b2 b3 r d,Bv A c l r q]) (FG wB) (fun x:TY×Nat=>Z1 false A4 res x.1) (fun x=>star [Jc b2 b3 r d,Sf A c l r res x]):=by
 intro Fz hX hF hQ;refine V.enter _ Tryz.func284 (Mem.startX hX hF) ?_;refine V.star ?_;unfold Jc;refine V.star ?_
 repeat refine W ?_
 refine R.cq (fun w' h'=>hV r w' (AI.belowB hB hQ h'.1)) (fun G hG=>FG.of hB hQ G hG) (fun x=>?_)
 repeat refine W ?_
 refine V.end fun w' h'=>?_;refine⟨x,by cases res<;>rfl,Mem.toW (Mem.toStar (B:=[star [_,_],Sf A c l r res x]) (A:=[]) (Mem.toStar (B:=[_,_]) h'.sel))⟩
theorem Lq {n d:Nat} {q:List Pc} {t:Tr} {rest:List Pc} (h:Bl n d q=.ok t rest):rest.length<=q.length:=by
 obtain⟨p,e,_⟩:=Abb h;rw[e,List.length_append];omega
def Hc (x:G3):Tr:=match x.2.1 with
 | .ok t _=>t
 | .bad _=>DW
def Dn (xs:List G3):Prop:=∀ x∈xs,∃ t rest,x.2.1=.ok t rest
theorem JD {xs:List G3} {x:G3} (h:Dn xs) (hx:∃ t rest,x.2.1=.ok t rest):Dn (xs++[x]):=fun y hy=>by
 rcases List.mem_append.1 hy with h1 | h1
 ·exact h y h1
 ·rw[List.mem_singleton.1 h1];exact hx
theorem Se {p:Nat} {k:Int} (h:CQ l p [k]=true) (h0:k≠0):hk (at_ l p)=k:=by rw[Ahs h0] at h;exact of_decide_eq_true h
theorem hk0 {p:Nat} {k:Int} (h:CQ l p [k]=false) (h0:k≠0):hk (at_ l p)≠k:=by rw[Ahs h0] at h;exact of_decide_eq_false h
structure Aho (k:Int) (stp:Nat->List Pc->Sc×FR) (R:Nat->List Pc->List G3->FR) (fin:List G3->Tr):Prop where
 k0:k≠0
 e:∀ m L xs,hk L=k->R (m+1) L xs=.ok (fin xs) L.tail
 b:∀ m L xs e,hk L≠k->(stp m L).2=.bad e->R (m+1) L xs=.bad e
 o:∀ m L xs (x:G3) v rest,hk L≠k->(x.1,x.2.1)=stp m L->x.2.1=.ok v rest->R (m+1) L xs=if hk rest=7 then R m rest.tail (xs++[x]) else if hk rest=k then .ok (fin (xs++[x])) rest.tail else .bad 91
 len:∀ m L v rest,(stp m L).2=.ok v rest->rest.length<=L.length
abbrev YL (l:List BX) (stp:Nat->List Pc->Sc×FR) (n i q:Nat):Sc×FR:=stp (n - i - 1) (at_ l q)
section
variable {k:Int} {stp:Nat->List Pc->Sc×FR} {R:Nat->List Pc->List G3->FR} {fin:List G3->Tr} (hR:Aho k stp R fin) {p n:Nat} (hn:2*(l.length - p)+2<=n) (hp:p<=l.length)
include hR hn hp
theorem Ch.list {xs:List G3} {q:Nat} (h:Ch l k p (YL l stp n) xs q):
  (q<=l.length/\2*(l.length - q)+2+xs.length<=n/\p+xs.length<=q)/\Dn xs/\R n (at_ l p) []=R (n - xs.length) (at_ l q) xs:=by
 induction h with
 | nil=>exact⟨⟨hp,hn,Nat.le_refl _⟩,(fun x hx=>by cases hx),rfl⟩
 | snoc pre q x h he hx ho hc ih=>
  obtain⟨⟨h1,h2,h2b⟩,h3,h4⟩:=ih;obtain⟨t,rest,ho⟩:=ho;obtain⟨g1,g2⟩:=hx.2 t rest ho;have hl:=hR.len (n - pre.length - 1) (at_ l q) t rest (by rw[<- ho];exact(congrArg Prod.snd hx.1).symm);rw[g2,JG,JG] at hl;have hlt:=J6 hc;refine⟨by rw[List.length_append,List.length_singleton];omega,JD h3 ⟨t,rest,ho⟩,?_⟩;rw[h4,show n - pre.length=(n - pre.length - 1)+1 by omega,hR.o _ _ _ x t rest (hk0 he hR.k0) hx.1 ho,g2,if_pos (Se hc (by decide)),KG,List.length_append,List.length_singleton,show n - (pre.length+1)=n - pre.length - 1 by omega]
theorem Rp {pre:List G3} {x:G3} {e:Int} (h:ItA l k p (YL l stp n) pre x) (he:x.2.1=.bad e):R n (at_ l p) []=.bad e:=by
 obtain⟨q,hc,hk,hx⟩:=h;obtain⟨⟨h1,h2,_⟩,h3,h4⟩:=hc.list hR hn hp;rw[h4,show n - pre.length=(n - pre.length - 1)+1 by omega,hR.b _ _ _ e (hk0 hk hR.k0) (by rw[<- he];exact(congrArg Prod.snd hx.1).symm)]
theorem PY {A:Option Addr} {c r:Nat} {xs:List G3} (h:ItF l k p (YL l stp n) xs) (ho:Dn xs):
  ∃ m,m<=l.length/\rdX A c l r p xs=Bv A c l r m/\R n (at_ l p) []=if CQ l m [k] then .ok (fin xs) (at_ l (m+1)) else .bad 91:=by
 rcases h with ⟨q,hc,he⟩ | ⟨pre,x,q,rfl,hc,he,hx,hor⟩
 ·obtain⟨⟨h1,h2,_⟩,h3,h4⟩:=hc.list hR hn hp;refine⟨q,h1,hc.rd,?_⟩;rw[h4,show n - xs.length=(n - xs.length - 1)+1 by omega,hR.e _ _ _ (Se he hR.k0),he,if_pos rfl,KG]
 ·obtain⟨⟨h1,h2,_⟩,h3,h4⟩:=hc.list hR hn hp;obtain⟨t,rest,ho⟩:=ho x (by simp);have hc7:=hor.resolve_left (fun⟨e,h⟩=>by rw[ho] at h;cases h);obtain⟨g1,g2⟩:=hx.2 t rest ho;have hh:=hR.o (n - pre.length - 1) (at_ l q) pre x t rest (hk0 he hR.k0) hx.1 ho;obtain⟨sx,sr,y,m⟩:=x;dsimp only at ho hc7 g1 g2;subst ho;refine⟨m,g1,by rw[ZD,if_neg (by rw[hc7];simp)],?_⟩;rw[h4,show n - pre.length=(n - pre.length - 1)+1 by omega,hh,g2,if_neg (hk0 hc7 (by decide)),KG];cases h9:CQ l m [k] with
  | true=>rw[if_pos (Se h9 hR.k0),if_pos rfl]
  | false=>rw[if_neg (hk0 h9 hR.k0),if_neg (by simp)]
end
theorem Zp (d:Nat):Aho 9 (fun m L=>(A4,Bl m (d+1) L)) (fun m L xs=>Df m d L (xs.map Hc)) (fun xs=>DZ (xs.map Hc)) where
 k0:=by decide
 e:=fun m L xs h=>by rw[Df,if_pos h]
 b:=fun m L xs e h he=>by rw[Df,if_neg h];dsimp only at he;rw[he]
 o:=fun m L xs x v rest h hx ho=>by
  have:Bl m (d+1) L=.ok v rest:=by rw[<- ho];exact(congrArg Prod.snd hx).symm
  rw[Df,if_neg h,this];dsimp only
  rw[List.map_append,List.map_singleton,show Hc x=v by unfold Hc;rw[ho]]
 len:=fun m L v rest h=>Lq h
def Dj (xs:List G3):List (List Value):=xs.map fun x=>As x.2.2.1
def lsB (b4 b5:Nat) (xs:List G3):List Aj:=[blk b4 [.nilIface] 400,Hf fun z:Option Addr×Nat=>star [blk b5 [I J 1,Q ⟨#[]⟩,I J 0,I J 0,Q ⟨#[]⟩,Z O 0 0,Z z.1 xs.length z.2] 53,Af 53 7 (Z z.1 xs.length z.2) xs.length (Dj xs).flatten],star (BE (xs.map Hc) (Dj xs)),pr (Dn xs)]
theorem Adp {C:Nat->Prop} {w0 w:Y} {T:Aj} {b4 b5:Nat} {pre:List G3} {sx:Sc} {t:Tr} {rest:List Pc} {y:TY} {m:Nat} {z:Option Addr×Nat} (h:Mem C w0 ([Aq (As y) t,blk b4 [.nilIface] 400,blk b5 [I J 1,Q ⟨#[]⟩,I J 0,I J 0,Q ⟨#[]⟩,Z O 0 0,Z z.1 (pre.length+1) z.2] 53,Af 53 7 (Z z.1 (pre.length+1) z.2) (pre.length+1) ((Dj pre).flatten++As y),star (BE (pre.map Hc) (Dj pre))]++[T]) w) (hok:Dn pre):
  Mem C w0 (lsB b4 b5 (pre++[(sx,.ok t rest,y,m)])++[T]) w:=by
 have e2:Dj (pre++[(sx,FR.ok t rest,y,m)])=Dj pre++[As y]:=by unfold Dj;rw[List.map_append];rfl
 have e3:(pre++[(sx,FR.ok t rest,y,m)]).map Hc=pre.map Hc++[t]:=by rw[List.map_append];rfl
 unfold lsB;rw[List.length_append,e2,e3,List.flatten_append,FT _ _ _ _ (by unfold Dj;rw[List.length_map,List.length_map])];have h1:Mem C w0 (star (BE (pre.map Hc) (Dj pre)++[Aq (As y) t])::([blk b4 [.nilIface] 400,blk b5 [I J 1,Q ⟨#[]⟩,I J 0,I J 0,Q ⟨#[]⟩,Z O 0 0,Z z.1 (pre.length+1) z.2] 53,Af 53 7 (Z z.1 (pre.length+1) z.2) (pre.length+1) ((Dj pre).flatten++As y)]++[T])) w:=E0 (B:=[Aq (As y) t]) h.sel;have h2:=h1.pr (p:=Dn (pre++[(sx,FR.ok t rest,y,m)])) (JD hok ⟨t,rest,rfl⟩);have h3:Mem C w0 ([blk b5 [I J 1,Q ⟨#[]⟩,I J 0,I J 0,Q ⟨#[]⟩,Z O 0 0,Z z.1 (pre.length+1) z.2] 53,Af 53 7 (Z z.1 (pre.length+1) z.2) (pre.length+1) ((Dj pre).flatten++As y)]++([blk b4 [.nilIface] 400,star (BE (pre.map Hc) (Dj pre)++[Aq (As y) t]),pr (Dn (pre++[(sx,FR.ok t rest,y,m)]))]++[T])) w:=h2.sel;have h4:=Mem.toEx (f:=fun z:Option Addr×Nat=>star [blk b5 [I J 1,Q ⟨#[]⟩,I J 0,I J 0,Q ⟨#[]⟩,Z O 0 0,Z z.1 (pre.length+1) z.2] 53,Af 53 7 (Z z.1 (pre.length+1) z.2) (pre.length+1) ((Dj pre).flatten++As y)]) z (Mem.toStar h3);rw[show[As y].flatten=As y by simp];exact h4.sel
theorem Mem.ksNil {C:Nat->Prop} {w0 w:Y} {Zz:List Aj} (h:Mem C w0 Zz w):Mem C w0 (K4 (Z O 0 0) []::Zz) w:=⟨h.1,fun _=>False,⟨O,0,rfl,fun j x hj=>by cases hj⟩,fun _ e=>e.elim,h.2.mono (fun b hb=>⟨hb,fun e=>e⟩) (fun _ _=>rfl)⟩
theorem NS (y:TY) (w:Y):Calls Tryz.prog 354 #[.agg (As y).toArray] w fun e w'=>e=.returned (.agg (As y).toArray)/\Below w.heap.size w w':=by
 refine V.enter _ Tryz.func354 (Mem.start (C:=Ao) w) ?_
 repeat (first | refine W ?_ | refine R.new fun _ _=>?_)
 refine V.end (fun w' h'=>?_) (hv:=.agg rfl (by(repeat (first | exact List.Mem.head _ | apply List.Mem.tail))) (by intro w;kernel_rfl) (by intro w;simp;try rfl) .nil);exact⟨rfl,h'.1.below⟩
theorem Ad8 (xs:List G3):(Dj xs).flatten.length=xs.length*7:=by
 rw[N6 _ (fun u hu=>by obtain⟨x,_,rfl⟩:=List.mem_map.1 hu;rfl)];unfold Dj;rw[List.length_map]
theorem Ajt (xs:List G3) (y z:TY):AC ((Dj xs).flatten++As z) (0+xs.length*7) (As y)=F ((Dj xs).flatten++As y):=by
 rw[Nat.zero_add,<- Ad8 xs];exact CO (Dj xs).flatten (As z) 0 (As y) (As y) rfl
theorem Af9 (v:Value) (w:Y):(Go.method 587 439 v "sigillary/flow.tree").run Tryz.prog w=.ok (354,v) w:=by kernel_rfl
theorem Agb (v:Value) (w:Y):(nilAhead 587 439 v "sigillary/flow.tree").run Tryz.prog w=.ok (F false) w:=by kernel_rfl
theorem To (hP:M5 wB A l) (p d n:Nat) (t:BX) (ht:l[p]? =F t) (hd:¬24<d) (h8:t.kind=8) (hn:2*(l.length - p)<=n) (hV:∀ m,m<n->Xn wB A c l m (d+1)):XW wB A c l 276 p d (Df n d (at_ l (p+1)) []):=by
 intro r w hB Fz hX hF hQ;have hlt:=(List.getElem?_eq_some_iff.1 ht).1;have hlen:=hP.len;refine V.enter _ Tryz.func276 (Mem.startX hX hF) ?_;refine W ?_;refine R.new fun b2 h2=>?_;refine R.new fun b3 h3=>?_;refine R.new fun b4 h4=>?_;unfold Bv
 repeat refine W ?_
 refine R.new fun b5 h5=>?_
 repeat refine W ?_
 refine R.cf (fun w' h'=>Kq r 9 284 #[.pointer (F ⟨b2,0,O⟩),.pointer (F ⟨b3,0,O⟩)] w') (fun q=>?_);refine R.z ?_;have hI:ItP wB A c l r 284 [.pointer (F ⟨b2,0,O⟩),.pointer (F ⟨b3,0,O⟩)] (Jc b2 b3 r d) false 9 (p+1) n (YL l (fun m L=>(A4,Bl m (d+1) L)) n):={
  rd:=hP
  hf:=by intro args w;simp
  hp0:=hlt
  hn0:=by omega
  len:=fun i q t rest h=>by have:=Lq h;rw[JG] at this;exact this
  one:=fun i q w hB hq hn=>Pu hP b2 b3 r d q (by omega) _ (hV (n - i - 1) (by omega) q hq (by omega)) w hB}
 refine V.range (ZF hI q.1 q.2.1 q.2.2) (lsB b4 b5) (fun co xs=>[Hf fun e=>star [pr (co=.ret/\Df n d (at_ l (p+1)) []=.bad e),blk b4 [Sn e] 400]])
  (fun w' h=>?_) (fun w1 w2 G h hb hG=>⟨AI.belowB hB hQ (h.1.trans (AI.of_below (C:=Fz) hb) (fun _ _ e=>e)),FG.of hB hQ G hG⟩) (fun r' pre x Wb C' T T' Rl hadm hx hC hmid=>?_) (fun D xs hfin=>?_) (fun D co xs=>?_)
 ·have h0:Mem Fz w ([blk b2 [.pointer (F ⟨r,0,O⟩)] 394,blk b3 [I J d] 3]++[blk b5 [I J 1,Q ⟨#[]⟩,I J 0,I J 0,Q ⟨#[]⟩,Z O 0 0,Z O 0 0] 53,blk b4 [.nilIface] 400,Bv A c l r (p+1),blk q.1 [.pointer (F ⟨r,0,O⟩)] 394,blk q.2.1 [I J 9] 3,blk q.2.2 [.func (.func 284) #[] #[.pointer (F ⟨b2,0,O⟩),.pointer (F ⟨b3,0,O⟩)]] 442]) w':=h.sel;have h1:Mem Fz w ([blk b5 [I J 1,Q ⟨#[]⟩,I J 0,I J 0,Q ⟨#[]⟩,Z O 0 0,Z O 0 0] 53,Af 53 7 (Z O 0 0) 0 []]++[Jc b2 b3 r d,blk b4 [.nilIface] 400,Bv A c l r (p+1),blk q.1 [.pointer (F ⟨r,0,O⟩)] 394,blk q.2.1 [I J 9] 3,blk q.2.2 [.func (.func 284) #[] #[.pointer (F ⟨b2,0,O⟩),.pointer (F ⟨b3,0,O⟩)]] 442]) w':=((Mem.toStar h0).ownNil 53 7).sel;have h3:=Mem.toEx (f:=fun z:Option Addr×Nat=>star [blk b5 [I J 1,Q ⟨#[]⟩,I J 0,I J 0,Q ⟨#[]⟩,Z O 0 0,Z z.1 0 z.2] 53,Af 53 7 (Z z.1 0 z.2) 0 []]) (O,0) (Mem.toStar h1);have h4:=(Mem.toStar (B:=[]) h3).pr (p:=Dn []) (fun x hx=>by cases hx);exact h4.sel
 ·obtain⟨sx,sr,y,m⟩:=x;cases sr with
  | bad e=>
   have hbad:=Rp (Zp d) (by omega) hlt hadm rfl
   repeat refine W ?_
   refine V.mid hmid ?_;dsimp only[Z1,Sn]
   repeat (first | refine W ?_ | refine R.new fun _ _=>?_)
   refine V.pre (S':=Mem C' Wb [Hf fun e=>star [pr (Code.ret=.ret/\Df n d (at_ l (p+1)) []=.bad e),blk b4 [Sn e] 400],T']) ?_ (by intro w' h';exact Mem.toEx e (Mem.toStar (B:=[_,_]) (Mem.sel (h'.pr (p:=Code.ret=.ret/\Df n d (at_ l (p+1)) []=.bad e) ⟨rfl,hbad⟩))));exact V.rr
  | ok t rest=>
   repeat refine W ?_
   refine V.mid hmid ?_;dsimp only[Z1]
   iterate 14 (first | refine W ?_ | refine R.new fun _ _=>?_)
   refine V.prop (p:=Dn pre) (fun hok=>?_) (hp:=by simp[lsB]);refine V.pre (S':=Mem C' Wb [Hf fun z:Option Addr×Nat=>star [blk b5 [I J 1,Q ⟨#[]⟩,I J 0,I J 0,Q ⟨#[]⟩,Z O 0 0,Z z.1 pre.length z.2] 53,Af 53 7 (Z z.1 pre.length z.2) pre.length (Dj pre).flatten],Aq (As y) t,blk b4 [.nilIface] 400,star (BE (pre.map Hc) (Dj pre)),T']) ?_ (by intro w' h';exact h'.sel);refine V.ex (fun z=>?_);refine V.star ?_;refine V.regT [3,5,6,7,9,8,10] [0,1,2,4] (Mem C' Wb [blk b5 [I J 1,Q ⟨#[]⟩,I J 0,I J 0,Q ⟨#[]⟩,Z O 0 0,Z z.1 pre.length z.2] 53]) ?_;iterate 4 refine Wz ?_
   have hpl:pre.length+1<=1000000:=by obtain⟨q,hq,_⟩:=hadm;have:=(hq.list (Zp d) (by omega) hlt).1;omega
   have hci:=fun(Zz:List Aj) (w':Y) (h':Mem C' Wb Zz w')=>NS y w';refine Zz.last (ι:=Nat×Nat) (Si:=fun u=>Mem C' Wb ([Aq (As y) t,blk b4 [.nilIface] 400,blk b5 [I J 1,Q ⟨#[]⟩,I J 0,I J 0,Q ⟨#[]⟩,Z O 0 0,Z (F ⟨u.1,0,O⟩) (pre.length+1) u.2] 53,Af 53 7 (Z (F ⟨u.1,0,O⟩) (pre.length+1) u.2) (pre.length+1) ((Dj pre).flatten++As y),star (BE (pre.map Hc) (Dj pre))]++[T'])) (li:=fun _=>[]) (fun hV=>?_) (fun u=>?_)
   ·refine Zz.fk 3 5 (T1:=[5,6,7,9]) (R1:=[8,10]) (T2:=[3,6,7,9]) (R2:=[8,10]) (d1:=by exact D.ci (hci _) (Af9 _) (Agb _)) (d2:=by exact D.bs (m:=1)) (h1:=fun _=>Zz.do (hd:=by exact D.bs (m:=1)) (h:=fun bn=>?_)) (h2:=fun bn=>Zz.do (hd:=by exact D.ci (hci _) (Af9 _) (Agb _)) (h:=fun _=>?_));all_goals
     refine Zz.clr (Mem C' Wb []) (hd:=by exact D.app elT (k:=pre.length) (m:=1) (xs:=(Dj pre).flatten) (news:=As (EO A4)) (fun w' h'=>(Cs.of_blk (h'.blk (List.Mem.head _))).add) (by omega)) (h:=fun u=>?_);refine Zz.ix (k:=pre.length) (Nat.lt_succ_self _) ?_;refine Wz ?_;refine Zz.fk 8 10 (T1:=[10]) (R1:=[]) (T2:=[8]) (R2:=[]) (d1:=by exact D.sw (Ajt pre y (EO A4))) (d2:=by exact D.st) (h1:=fun _=>?_) (h2:=fun _=>?_);refine Zz.do (hd:=by exact D.st) (h:=fun _=>?_)
     rotate_left
     refine Zz.do (hd:=by exact D.sw (Ajt pre y (EO A4))) (h:=fun _=>?_);all_goals
      refine Zz.off (fun w' h'=>h'.sel) ?_;exact R.z (V.less (hV u) (fun w' h'=>h'.sel))
   ·refine V.pre (S':=Mem C' Wb (lsB b4 b5 (pre++[(sx,.ok t rest,y,m)])++[T'])) ?_ (fun w' h'=>Adp (z:=(F ⟨u.1,0,O⟩,u.2)) h' hok);exact V.rn
 ·refine V.prop (p:=Dn xs) (fun hok=>?_) (hp:=by simp[lsB]);obtain⟨m,hm,hrd,hres⟩:=PY (Zp d) (by omega) hlt (A:=A) (c:=c) (r:=r) hfin hok;rw[show Df n d (at_ l (p+1)) []=_ from hres];refine V.pre (S':=Mem Fz w [Hf fun z:Option Addr×Nat=>star [blk b5 [I J 1,Q ⟨#[]⟩,I J 0,I J 0,Q ⟨#[]⟩,Z O 0 0,Z z.1 xs.length z.2] 53,Af 53 7 (Z z.1 xs.length z.2) xs.length (Dj xs).flatten],Jc b2 b3 r d,Bv A c l r m,Ob D (.deferred (F [])),blk b4 [.nilIface] 400,star (BE (xs.map Hc) (Dj xs))]) ?_ (by intro w' h';rw[hrd] at h';exact h'.sel);refine V.ex (fun z=>?_);refine V.star ?_;refine V.pre (S':=Mem Fz w [Jc b2 b3 r d,Bv A c l r m,Ob D (.deferred (F [])),blk b4 [.nilIface] 400,star (BE (xs.map Hc) (Dj xs)),blk b5 [I J 1,Q ⟨#[]⟩,I J 0,I J 0,Q ⟨#[]⟩,Z O 0 0,Z z.1 xs.length z.2] 53,Af 53 7 (Z z.1 xs.length z.2) xs.length (Dj xs).flatten]) ?_ (by intro w' h';exact h'.sel);refine V.star ?_
  repeat refine W ?_
  refine R.cq (fun w' h'=>JV (c:=c) hP r m 9 (1,⟨#[]⟩,A4,(O,0,0),(z.1,xs.length,z.2)) w' (AI.belowB hB hQ h'.1) hm) (fun G hG=>FG.of hB hQ G hG) (fun _=>?_);cases h9:CQ l m [9] with
  | true=>
   repeat refine W ?_
   refine V.end fun w' h'=>?_;have h1:Mem Fz w (Af 53 7 (Z z.1 xs.length z.2) (xs.map Hc).length (Dj xs).flatten::star (BE (xs.map Hc) (Dj xs))::[Bv A c l r (m+1)]) w':=by rw[List.length_map];exact h'.sel
   have h2:=EF (k:=1) (nm:=⟨#[]⟩) (x:=A4) (ks:=[]) (kv:=Z O 0 0) (by unfold Dj;rw[List.length_map,List.length_map]) (Mem.ksNil h1);exact⟨((1,⟨#[]⟩,A4,(O,0,0),(z.1,xs.length,z.2)),m+1),rfl,NV h2.sel (J6 h9) rfl⟩
  | false=>
   repeat refine W ?_
   refine V.end fun w' h'=>?_;exact⟨(EO A4,0),rfl,Mem.toW (h'.pr (p:=True) trivial).sel⟩
 ·refine V.pre (S':=Mem Fz w [Hf fun e=>star [pr (co=.ret/\Df n d (at_ l (p+1)) []=.bad e),blk b4 [Sn e] 400],Ob D (.deferred (F []))]) ?_ (by intro w' h';exact h'.sel);refine V.ex (fun e=>?_);refine V.star ?_;refine V.prop (p:=co=.ret/\Df n d (at_ l (p+1)) []=.bad e) (fun⟨hco,hbad⟩=>?_);subst hco;rw[hbad];refine V.end fun w' h'=>?_;exact⟨(EO A4,0),rfl,Mem.toW (h'.pr (p:=True) trivial).sel⟩
end
end
section
set_option maxHeartbeats 8000000
set_option maxRecDepth 100000
def E6 (m d:Nat):List Pc->Sc×FR
 | []=>(A4,.bad 91)
 | t::r=>if (Bd t).2≠0 then (A4,.bad (Bd t).2) else if hk r≠6 then (A4,.bad 91) else if 24<d then (A4,.bad 73) else
  if hk r.tail=7\/hk r.tail=11 then ((Bd t).1,.ok DW r.tail) else ((Bd t).1,Bl m d r.tail)
section
variable {wB:Y} {A:Option Addr} {c:Nat} {l:List BX}
theorem TI (hP:M5 wB A l) (q m d:Nat) (hV:Xn wB A c l m d) (hn:2*(l.length - q)<=m+1) (hq:q<=l.length) (r:Nat) (w:Y) (hB:Below wB.heap.size wB w):
  BT Tryz.prog 288 #[.pointer (F ⟨r,0,O⟩),I J d] w (Bv A c l r q) (FG wB) (fun x:TY×Nat=>Z1 true (E6 m d (at_ l q)).1 (E6 m d (at_ l q)).2 x.1) (fun x=>Sf A c l r (E6 m d (at_ l q)).2 x):=by
 have hk:E6 m d (at_ l q)=if (Dp l q).2≠0 then (A4,.bad (Dp l q).2) else if CQ l (q+1) [6]=false then (A4,.bad 91) else if 24<d then (A4,.bad 73) else
   if CQ l (q+2) [7,11] then ((Dp l q).1,.ok DW (at_ l (q+2))) else ((Dp l q).1,Bl m d (at_ l (q+2))):=by
  unfold Dp;cases ht:l[q]? with
  | none=>
   have:at_ l q=[]:=by unfold at_;rw[List.drop_eq_nil_iff.2 (List.getElem?_eq_none_iff.1 ht)];rfl
   rw[this];rfl
  | some t=>
   rw[show at_ l q=DP t::at_ l (q+1) from KC ht,Ahs (by decide),T7 (by decide)];unfold E6;dsimp only
   rw[KG];simp only[decide_eq_false_iff_not,List.any_cons,List.any_nil,Bool.or_false,Bool.or_eq_true,beq_iff_eq]
 have hlq:(Dp l q).2=0->q<l.length:=fun h=>by
  unfold Dp at h;cases ht:l[q]? with
  | none=>rw[ht] at h;cases h
  | some t=>exact(List.getElem?_eq_some_iff.1 ht).1
 rw[hk];clear hk;have hkey:=fun w' (h:Below wB.heap.size wB w')=>Oe (c:=c) hP r q w' h hq;obtain⟨kr,hkr⟩:∃ x,Dp l q=x:=⟨_,rfl⟩
 rw[hkr] at hkey hlq |-;clear hkr;intro Fz hX hF hQ;refine V.enter _ Tryz.func288 (Mem.startX hX hF) ?_
 repeat refine W ?_
 refine R.cq (fun w' h'=>hkey w' (AI.belowB hB hQ h'.1)) (fun G hG=>FG.of hB hQ G hG) (fun _=>?_);by_cases he:kr.2=0
 ·have hlt:=hlq he;rw[if_pos he,if_pos he,if_neg (fun h=>h he)];iterate 3 refine W ?_
  refine R.new fun b5 h5=>?_
  repeat refine W ?_
  refine R.cq (fun w' h'=>Gb (c:=c) hP r (q+1) 6 w' (AI.belowB hB hQ h'.1) hlt) (fun G hG=>FG.of hB hQ G hG) (fun _=>?_);cases h6:CQ l (q+1) [6] with
  | false=>
   repeat refine W ?_
   refine R.c (fun w' h'=>BS 91 w') ?_
   repeat refine W ?_
   refine V.end fun w' h'=>?_;exact⟨(EO A4,0),rfl,Mem.toW (h'.pr (p:=True) trivial).sel⟩
  | true=>
   have hlt2:=J6 h6
   repeat refine W ?_
   refine V.ifp (fun hd=>?_) (fun hd=>?_)
   ·have hd:24<d:=by omega
    rw[if_neg (by simp),if_pos hd]
    repeat refine W ?_
    refine R.c (fun w' h'=>BS 73 w') ?_
    repeat refine W ?_
    refine V.end fun w' h'=>?_;exact⟨(EO A4,0),rfl,Mem.toW (h'.pr (p:=True) trivial).sel⟩
   ·have hd:¬24<d:=by omega
    rw[if_neg (by simp),if_neg hd]
    repeat refine W ?_
    refine R.bs (m:=2) (cs:=[I J 7,I J 11]) (bt:=3) (fun bk hb=>?_);refine R.c (fun w' h'=>Ig (fun b=>b<wB.heap.size) (fun _=>True) r A (F ⟨bk,0,O⟩) c 2 l (q+2) [7,11] w' (Ye h' (by simp)) (hP.at hB hQ h'.1) (isRow (Cs.of_blk (h'.blk (List.Mem.head _)))) (by simp)) ?_
    repeat refine W ?_
    refine V.if (fun hc=>?_) (fun hc=>?_)
    ·rw[hc,if_pos rfl]
     repeat refine W ?_
     refine V.end fun w' h'=>?_;exact⟨(EO A4,q+2),rfl,NV (Mem.sel (Mem.tree0 (k:=0) (nm:=⟨#[]⟩) (x:=A4) h')) hlt2 rfl⟩
    ·rw[hc,if_neg (by simp)]
     repeat refine W ?_
     refine R.cq (fun w' h'=>hV (q+2) hlt2 (by omega) r w' (AI.belowB hB hQ h'.1)) (fun G hG=>FG.of hB hQ G hG) (fun x=>?_);cases Bl m d (at_ l (q+2)) with
     | bad e=>
      dsimp only[Sf,Lf,Sn]
      repeat refine W ?_
      refine V.end fun w' h'=>?_;exact⟨x,rfl,Mem.toW h'.sel⟩
     | ok v rest=>
      dsimp only[Sf,Lf]
      repeat (first | refine W ?_ | refine R.new fun _ _=>?_)
      refine V.end fun w' h'=>?_;exact⟨x,rfl,Mem.toW h'.sel⟩
 ·rw[if_neg he,if_neg he,if_pos he]
  repeat (first | refine W ?_ | refine R.new fun _ _=>?_)
  refine V.end fun w' h'=>?_;exact⟨(EO A4,0),rfl,Mem.toW (h'.pr (p:=True) trivial).sel⟩
end
end
end Go.Proofs.YtdpppepmkeinaaaGreatDoor
