/- What is proved: a part of the walk of the program and of its plain laws; no condition beside those that each theorem names. -/
import Derived.Test.YtdpppepmkeinaaaGreatDoorYw
import Derived.Test.YtdpppepmkeinaaaGreatDoorYv
import Derived.Test.YtdpppepmkeinaaaGreatDoorYu
import Derived.Test.YtdpppepmkeinaaaGreatDoorYa
namespace Go.Proofs.YtdpppepmkeinaaaGreatDoor
open Go Go.RowKit Go.Lib
open Go.Value renaming int->I,string->Q,slice->Z
open Go.IntKind renaming i64->J
open Option renaming none->O,some->F
open _root_.Go renaming World->Y
set_option linter.unusedSimpArgs false
set_option linter.unusedVariables false
set_option linter.unusedSectionVars false
section
def RU (P:Program) (ops:Array Oper) (n:Nat) (T:List Nat):List Nat->Bool
 | []=>true
 | i::pl=>(match ops[i]? with
  | some o=>JO n o&& !(pl++T).contains i&&(if quiet P o.op then (Region.ready .any ops (lst ops (i::(pl++T)))).contains i&&Region.free .any ops (lst ops (i::(pl++T))) i else Region.ready .any ops (lst ops (i::(pl++T)))==[i])&&((List.range ops.size).all fun m=> !(lst ops (i::(pl++T))).getD m false|| !DA ops m i)
  | none=>false)&&RU P ops n T pl
def Md (P:Program) (d:Bool) (ops:Array Oper) (n:Nat) (T pl:List Nat):Bool:=match d with
 | true=>RU P ops n T pl&&Region.noSelect ops
 | false=>okF ops n pl
def Rz (P:Program) (n:Nat) (ds:List Deferred) (d:Bool) (ops:Array Oper) (K:Act->Y->Prop) (T pl pend:List Nat) (Zf S:Y->Prop) (l:Env):Prop:=
 Md P d ops n T pl=true->match d with
 | false=>∀ a w,Kn n ds l a->S w->QE P ops K pl a w
 | true=>∀ Rs:Nat->Y->Prop,(∀ j,j∈pend->∀ w,Zf w->Rs j w)->∀ a w,Kn n ds l a->S w->E9 P .any ops K (Tm P ops Rs pend) (pl++T).length (lst ops (pl++T)) a w
section
variable {P:Program} {n:Nat} {ds:List Deferred} {d:Bool} {ops:Array Oper} {K:Act->Y->Prop} {i:Nat} {T pl pend:List Nat} {Zf S:Y->Prop} {l:Env}
theorem RC:∀ pl:List Nat,RU P ops n [] pl=okL P ops n pl
 | []=>rfl
 | i::pl=>by simp only[RU,okL,List.append_nil,RC pl];rfl
theorem T0:Md P d ops n [] pl=Ov P d ops n pl:=by
 cases d with
 | false=>rfl
 | true=>show(RU P ops n [] pl&&_)=_;rw[RC];rfl
theorem Zz.on (Zf:Y->Prop) (h:Rz P n ds d ops K [] pl [] Zf S l):Rj P n ds d ops K pl [] S l:=by
 intro hok;have h:=h (T0.trans hok);cases d with
 | false=>exact h
 | true=>dsimp only at h |-;rw[List.append_nil] at h;exact fun Rs _=>h Rs (fun j hj=>by cases hj)
theorem Zz.off (hSZ:∀ w,S w->Zf w) (h:Rj P n ds d ops K pl pend S l):Rz P n ds d ops K [] pl pend Zf S l:=by
 intro hok;have h:=h (T0.symm.trans hok);cases d with
 | false=>exact h
 | true=>dsimp only at h |-;rw[List.append_nil];exact fun Rs hRs=>h Rs (fun j hj w hw=>hRs j hj w (hSZ w hw))
theorem Qk (h:Md P d ops n T (i::pl)=true):Md P d ops n T pl=true/\∃ o,ops[i]? =F o/\JO n o=true:=by
 unfold Md at*
 cases d with
 | true=>
  dsimp only at*
  rw[Bool.and_eq_true] at*
  obtain⟨h1,h2⟩:=h;unfold RU at h1;rw[Bool.and_eq_true] at h1;refine⟨⟨h1.2,h2⟩,?_⟩;have h3:=h1.1;cases ho:ops[i]? with
  | none=>rw[ho] at h3;cases h3
  | some o=>rw[ho] at h3;simp only[Bool.and_eq_true] at h3;exact⟨o,rfl,h3.1.1.1⟩
 | false=>exact Qf (P:=P) (d:=false) h
theorem Mj {o:Oper} (h:RU P ops n T (i::pl)=true) (ho:ops[i]? =F o):(pl++T).contains i=false/\(quiet P o.op=true->i∈Region.ready .any ops (lst ops (i::(pl++T)))/\Region.free .any ops (lst ops (i::(pl++T))) i=true)∧
  (quiet P o.op=false->Region.ready .any ops (lst ops (i::(pl++T)))=[i])/\∀ m,(lst ops (i::(pl++T))).getD m false=true->DA ops m i=false:=by
 unfold RU at h;rw[Bool.and_eq_true,ho] at h;have h1:=h.1;simp only[Bool.and_eq_true,Bool.not_eq_true',List.all_eq_true,List.mem_range,Bool.or_eq_true] at h1;obtain⟨⟨⟨_,h2⟩,h3⟩,h4⟩:=h1;refine⟨h2,fun e=>?_,fun e=>?_,fun m hm=>?_⟩
 ·rw[e] at h3;simpa using h3
 ·rw[e] at h3;simpa using h3
 ·have hlt:m<ops.size:=by
   rcases Nat.lt_or_ge m ops.size with h' | h'
   ·exact h'
   ·rw[Array.getD_eq_getD_getElem?,Array.getElem?_eq_none (by rw[Ew];exact h')] at hm;cases hm
  rcases h4 m hlt with h5 | h5
  ·rw[h5] at hm;cases hm
  ·exact h5
theorem Zz.take {o:Oper} {v:Value} {wt:Bool} (b:Bool) (hSZ:∀ w,S w->Zf w) (ho:AQ ops.toList i=F o) (hg:D0 ops.toList l o.guard=F wt) (hq:quiet P o.op=true) (hv:if wt=true then ∀ a w,Kn n ds l a->(b=true->Zf w)->(execOp a.eval o).run P w=.ok (.value v) w else v=undef)
  (h:Rz P n ds d ops K T pl (bif b then i::pend else pend) Zf S (addl l o.dst v)):Rz P n ds d ops K T (i::pl) pend Zf S l:=by
 intro hok;obtain⟨hok',o',ho',hd⟩:=Qk hok;rw[EV,Array.getElem?_toList] at ho;rw[ho] at ho';cases ho'
 have h:=h hok';have hsub:∀ k,k∈pend->k∈(bif b then i::pend else pend):=fun k hk=>by
  cases b
  ·exact hk
  ·exact List.mem_cons_of_mem _ hk
 cases d with
 | false=>
  dsimp only at h |-;intro a w ha hw;unfold QE Ms;rw[ho];dsimp only
  rw[Di ha hg];cases wt with
  | true=>
   rw[if_pos rfl] at hv |-;unfold FI;rw[hv a w ha (fun _=>hSZ w hw)];exact h _ w (ha.addl hd v) hw
  | false=>
   rw[if_neg (by simp)] at hv |-;subst hv;exact h _ w (ha.addl hd _) hw
 | true=>
  dsimp only at h |-;intro Rs hRs a w ha hw;show E9 P .any ops K (Tm P ops Rs pend) ((pl++T).length+1) (lst ops (i::(pl++T))) a w;unfold Md at hok;rw[Bool.and_eq_true] at hok;obtain⟨hcn,hrf,_,hlw⟩:=Mj hok.1 ho;obtain⟨hr,hf⟩:=hrf hq;have hin:=h (fun j w=>(j∈pend->Rs j w)/\(j=i->wt=true->∀ a,Kn n ds l a->(execOp a.eval o).run P w=.ok (.value v) w))
   (fun j _ w hw=>⟨fun hj'=>hRs j hj' w hw,fun _ ht a ha=>by rw[ht,if_pos rfl] at hv;exact hv a w ha (fun _=>hw)⟩) (a.put o.dst v) w (ha.addl hd v) hw
  rw[<- FC hcn] at hin;have hm:∀ m om,ops[m]? =F om->(lst ops (i::(pl++T))).getD m false=true->∀ e∈om.after,Region.binds .any e=true->e.on≠i:=fun m om hom hl=>(IG hom).1 (hlw m hl);have hwt:=Di ha hg;refine FT (fun _=>True) (fun _ _ _=>trivial) (fun L w _ hT k hk hmm=>(hT k (hsub k hk) hmm).1 hk) _ _ _ _ trivial
   (JI (Zz:=fun w=>wt=true->∀ a,Kn n ds l a->(execOp a.eval o).run P w=.ok (.value v) w) ho (fun L w hT hm=>?_)
    (fun L w=>?_) (Region.noSelect_spec hok.2) _ _ _ _ (Region.free_spec ho hf) hr hm ?_ ?_ hin)
  ·intro ht a ha;cases b with
   | true=>exact(hT i (List.mem_cons_self ..) (fun m om hom _ hl=>(IG hom).2 (hm m om hom hl))).2 rfl ht a ha
   | false=>rw[ht,if_pos rfl] at hv;exact hv a w ha (fun e=>by cases e)
  ·constructor
   ·intro hT k hk hmm;refine hT k hk (fun m om hom hqm hl=>?_);by_cases e:i=m
    ·subst e;rw[ho] at hom;cases hom;rw[hq] at hqm;cases hqm
    ·rw[getD_set_ne false e] at hl;exact hmm m om hom hqm hl
   ·intro hT k hk hmm;exact hT k hk (fun m om hom hqm hl=>hmm m om hom hqm (getD_set_true hl))
  ·cases wt with
   | true=>exact .inl ⟨hwt,fun w hz=>hz rfl a ha⟩
   | false=>rw[if_neg (by simp)] at hv;exact .inr ⟨hwt,hv⟩
  ·intro k hk hmm;exact⟨fun hk'=>hRs k hk' w (hSZ w hw),fun _ ht a ha=>by rw[ht,if_pos rfl] at hv;exact hv a w ha (fun _=>hSZ w hw)⟩
theorem Zz.eff {ι:Type} {o:Oper} {Si:ι->Y->Prop} {li:ι->Env} (ho:AQ ops.toList i=F o) (hg:D0 ops.toList l o.guard=F true) (hq:quiet P o.op=false)
  (he:∀ a w (K':Act->Y->Prop),Kn n ds l a->(∀ v,Kn n ds (addl l o.dst v) (a.put o.dst v))->S w->(∀ x v w',Si x w'->Kn n ds (li x) (a.put o.dst v)->K' (a.put o.dst v) w')->FI P o a w K')
  (hp:∀ x w,Si x w->Zf w) (h:∀ x,Rz P n ds d ops K T pl pend Zf (Si x) (li x)):Rz P n ds d ops K T (i::pl) pend Zf S l:=by
 intro hok;obtain⟨hok',o',ho',hd⟩:=Qk hok;rw[EV,Array.getElem?_toList] at ho;rw[ho] at ho';cases ho'
 have h:=fun x=>h x hok';cases d with
 | false=>
  dsimp only at h |-;intro a w ha hw;unfold QE Ms;rw[ho];dsimp only
  rw[Di ha hg,if_pos rfl];exact he a w _ ha (ha.addl hd) hw (fun x v w' hs hk=>h x _ w' hk hs)
 | true=>
  dsimp only at h |-;intro Rs hRs a w ha hw;show E9 P .any ops K (Tm P ops Rs pend) ((pl++T).length+1) (lst ops (i::(pl++T))) a w;unfold Md at hok;rw[Bool.and_eq_true] at hok;obtain⟨hcn,_,hre,_⟩:=Mj hok.1 ho;have hr:=hre hq;have hlt:i<ops.size:=(Gl ho)
  have hget:((lst ops (i::(pl++T))).setIfInBounds i true).getD i false=true:=by
   rw[Array.getD_eq_getD_getElem?,Array.getElem?_setIfInBounds_self_of_lt (by rw[Ew];exact hlt)];rfl
  refine⟨(fun h0=>by rw[hr] at h0;cases h0),?_⟩;rw[hr];intro j hj;obtain rfl:j=i:=by simpa using hj
  unfold Ms;rw[ho];dsimp only
  rw[Di ha hg,if_pos rfl];refine he a w _ ha (ha.addl hd) hw (fun x v w' hs hk=>?_);have:=h x Rs hRs _ w' hk hs;rw[<- FC hcn] at this;exact⟨fun k hk _=>hRs k hk w' (hp x w' hs),this⟩
end
section
variable {P:Program} {n:Nat} {ds:List Deferred} {d:Bool} {ops:Array Oper} {K:Act->Y->Prop} {i:Nat} {T pl pend:List Nat} {l:Env}
 {t:Nat} {ty:TypeId} {ps:String} {af:Array Edge} {gd:Option (Nat×Bool)} {C:Nat->Prop} {w0:Y} {A A' Z0:List Aw} {Zf S:Y->Prop}
theorem Zz.p {op:Op} {v:Value} {vs:List Value} (hz:∀ w,S w->Zf w:=by exact fun w h=>h.sel) (ho:AQ ops.toList i=F ⟨F t,op,ty,ps,af,gd⟩:=by rfl) (hg:D0 ops.toList l gd=F true:=by rfl) (hs:evs l op.operands.toList=F vs:=by rfl) (h0:Oh op=true:=by rfl) (hq:quiet P op=true:=by first | rfl | kernel_rfl) (hv:∀ ρ w,GD ρ op.operands.toList vs->(execOp ρ ⟨F t,op,ty,ps,af,gd⟩).run P w=.ok (.value v) w:=by intro ρ w h;simp only[Op.operands,Call.operands,GD,Array.toList_append,List.toList_toArray,List.map_cons,List.map_nil,List.nil_append,List.cons_append] at h;simp[go_sem,h];(try rfl);first | done | fail):(Rz P n ds d ops K T pl pend Zf S ((t,v)::l))->Rz P n ds d ops K T (i::pl) pend Zf S l:=fun h=>
 Zz.take false hz ho hg hq (by rw[if_pos rfl];exact fun a w ha _=>hv a.eval w (ha.evs _ _ hs).1) h
theorem Zz.u {op:Op} (hz:∀ w,S w->Zf w:=by exact fun w h=>h.sel) (ho:AQ ops.toList i=F ⟨F t,op,ty,ps,af,gd⟩:=by rfl) (hg:D0 ops.toList l gd=F false:=by rfl) (h0:Oh op=true:=by rfl) (hq:quiet P op=true:=by first | rfl | kernel_rfl):(Rz P n ds d ops K T pl pend Zf S ((t,undef)::l))->Rz P n ds d ops K T (i::pl) pend Zf S l:=fun h=>
 Zz.take false hz ho hg hq (by rw[if_neg (by simp)]) h
theorem Zz.add {x y:Operand} {tt t2:TypeId} {a b:Int} (hz:∀ w,S w->Zf w:=by exact fun w h=>h.sel) (ho:AQ ops.toList i=F ⟨F t,.binOp .add tt x y t2,ty,ps,af,gd⟩:=by rfl) (hx:ev l x=F (I J a):=by rfl) (hy:ev l y=F (I J b):=by rfl) (hr: -9223372036854775808<=a+b/\a+b<=9223372036854775807:=by omega) (hg:D0 ops.toList l gd=F true:=by rfl):(Rz P n ds d ops K T pl pend Zf S ((t,I J (a+b))::l))->Rz P n ds d ops K T (i::pl) pend Zf S l:=fun h=>
 Zz.take false hz ho hg rfl (by rw[if_pos rfl];intro a w ha _;simp[execOp,ha.ev hx,ha.ev hy,eqGuard,binOp,Op.intArith,Sem.run_bind,Sem.run,pure,IntWalk.i64_in _ hr]) h
theorem Zz.sub {x y:Operand} {tt t2:TypeId} {a b:Int} (hz:∀ w,S w->Zf w:=by exact fun w h=>h.sel) (ho:AQ ops.toList i=F ⟨F t,.binOp .sub tt x y t2,ty,ps,af,gd⟩:=by rfl) (hx:ev l x=F (I J a):=by rfl) (hy:ev l y=F (I J b):=by rfl) (hr: -9223372036854775808<=a - b/\a - b<=9223372036854775807:=by omega) (hg:D0 ops.toList l gd=F true:=by rfl):(Rz P n ds d ops K T pl pend Zf S ((t,I J (a - b))::l))->Rz P n ds d ops K T (i::pl) pend Zf S l:=fun h=>
 Zz.take false hz ho hg rfl (by rw[if_pos rfl];intro a w ha _;simp[execOp,ha.ev hx,ha.ev hy,eqGuard,binOp,Op.intArith,Sem.run_bind,Sem.run,pure,IntWalk.i64_in _ hr]) h
theorem Zz.ix {x y:Operand} {tt e:TypeId} {b o len c sz k:Nat} (hk:k<len) (h:Rz P n ds d ops K T pl pend Zf S ((t,.pointer (F ⟨b,o+k*sz,O⟩))::l)) (hz:∀ w,S w->Zf w:=by exact fun w h=>h.sel) (ho:AQ ops.toList i=F ⟨F t,.indexAddr tt x y,ty,ps,af,gd⟩:=by rfl)
  (hx:ev l x=F (Z (F ⟨b,o,O⟩) len c):=by rfl) (hy:ev l y=F (I J k):=by rfl) (hu:∀ w,(underlying tt).run P w=.ok (.slice e) w:=by intro w;simp;(try rfl);first | done | fail) (hs:∀ w,(sizeOf e).run P w=.ok sz w:=by intro w;simp;(try rfl);first | done | fail) (hg:D0 ops.toList l gd=F true:=by rfl):Rz P n ds d ops K T (i::pl) pend Zf S l:=
 Zz.take false hz ho hg rfl (by
  rw[if_pos rfl];intro a w ha _;have h2:(0:Int)<=(k:Int)/\(k:Int)<(len:Int):=⟨by omega,by omega⟩
  have h3:(⟨b,o,O⟩:Addr).add (k*sz)=⟨b,o+k*sz,O⟩:=by unfold Addr.add;split<;>simp_all
  simp[execOp,ha.ev hx,ha.ev hy,Instr.indexAt,asIntOf,Sem.run_bind,Sem.run,pure,hu,h2,hs,h3]) h
theorem Zz.takeS {o:Oper} {v:Value} (hz:∀ w,S w->Zf w) (ho:AQ ops.toList i=F o) (hg:D0 ops.toList l o.guard=F true) (hq:quiet P o.op=true) (hv:∀ a w,Kn n ds l a->Zf w->(execOp a.eval o).run P w=.ok (.value v) w)
  (h:Rz P n ds d ops K T pl (i::pend) Zf S (addl l o.dst v)):Rz P n ds d ops K T (i::pl) pend Zf S l:=
 Zz.take true hz ho hg hq (by rw[if_pos rfl];exact fun a w ha hw=>hv a w ha (hw rfl)) h
theorem Zz.re (t:Nat) {v v':Value} (e:v=v') (h:Rz P n ds d ops K T pl pend Zf S ((t,v')::l)) (hv:lk l t=F v:=by rfl):Rz P n ds d ops K T pl pend Zf S l:=by
 intro hok;have h:=h hok;cases d with
 | false=>exact fun a w ha hw=>h a w (ha.re hv e) hw
 | true=>exact fun Rs hRs a w ha hw=>h Rs hRs a w (ha.re hv e) hw
end
section
variable {P:Program} {n:Nat} {ds:List Deferred} {d:Bool} {ops:Array Oper} {K:Act->Y->Prop} {i:Nat} {T pl pend:List Nat} {l:Env}
 {t:Nat} {ty:TypeId} {ps:String} {af:Array Edge} {gd:Option (Nat×Bool)} {C:Nat->Prop} {w0:Y} {A Az Z0:List Aw}
theorem Zz.lb {x:Operand} {tt bt:TypeId} {b o m:Nat} {g:Bool} {v:Value} {cs:List Value} (hz:∀ w,Mem C w0 A w->Mem C w0 Az w:=by exact fun w h=>h.sel) (ho:AQ ops.toList i=F ⟨F t,.load tt x,ty,ps,af,gd⟩:=by rfl)
  (hx:ev l x=F (.pointer (F ⟨b,o,O⟩)):=by rfl) (hb:blk b cs bt∈Az:=by(repeat (first | exact List.Mem.head _ | apply List.Mem.tail));first | done | fail) (ht:∀ w,(isAgg tt).run P w=.ok g w:=by intro w;simp;(try rfl);first | done | fail) (hs:∀ w,(sizeOf tt).run P w=.ok m w:=by intro w;simp;(try rfl);first | done | fail) (hv:ldV g m (cs.drop o)=F v:=by rfl) (hg:D0 ops.toList l gd=F true:=by rfl):
  Rz P n ds d ops K T pl (i::pend) (Mem C w0 Az) (Mem C w0 A) ((t,v)::l)->Rz P n ds d ops K T (i::pl) pend (Mem C w0 Az) (Mem C w0 A) l:=fun h=>
 Zz.takeS hz ho hg rfl (fun a w ha hw=>run_load hx ha (by
  have:=(Cs.of_blk (hw.blk hb)).drop o;rw[Nat.zero_add] at this;exact Hr this hv (ht w) (hs w))) h
theorem Zz.lo {x:Operand} {tt:TypeId} {b o p m:Nat} {g:Bool} {v:Value} {vs:List Value} (j:Nat) (hc:Cs w0 b o vs) (h:Rz P n ds d ops K T pl (i::pend) (Mem C w0 Az) (Mem C w0 A) ((t,v)::l)) (hn:¬C b:=by exact fun h=>h) (hz:∀ w,Mem C w0 A w->Mem C w0 Az w:=by exact fun w h=>h.sel) (ho:AQ ops.toList i=F ⟨F t,.load tt x,ty,ps,af,gd⟩:=by rfl)
  (hx:ev l x=F (.pointer (F ⟨b,p,O⟩)):=by rfl) (hp:p=o+j:=by rfl) (ht:∀ w,(isAgg tt).run P w=.ok g w:=by intro w;simp;(try rfl);first | done | fail) (hs:∀ w,(sizeOf tt).run P w=.ok m w:=by intro w;simp;(try rfl);first | done | fail) (hv:ldV g m (vs.drop j)=F v:=by rfl) (hg:D0 ops.toList l gd=F true:=by rfl):Rz P n ds d ops K T (i::pl) pend (Mem C w0 Az) (Mem C w0 A) l:=
 Zz.takeS hz ho hg rfl (fun a w ha hw=>run_load hx ha (by subst hp;exact Hr ((hw.1.cs hc hn).drop j) hv (ht w) (hs w))) h
theorem Zz.lw {x:Operand} {tt e:TypeId} {b o c m sz gn:Nat} {g:Bool} {v:Value} {xs:List Value} (hv:ldV g m (xs.drop o)=F v) (h:Rz P n ds d ops K T pl (i::pend) (Mem C w0 Az) (Mem C w0 A) ((t,v)::l)) (hz:∀ w,Mem C w0 A w->Mem C w0 Az w:=by exact fun w h=>h.sel) (ho:AQ ops.toList i=F ⟨F t,.load tt x,ty,ps,af,gd⟩:=by rfl)
  (hx:ev l x=F (.pointer (F ⟨b,o,O⟩)):=by rfl) (hb:An e sz (Z (F ⟨b,0,O⟩) gn c) gn xs∈Az:=by(repeat (first | exact List.Mem.head _ | apply List.Mem.tail));first | done | fail) (ht:∀ w,(isAgg tt).run P w=.ok g w:=by intro w;simp;(try rfl);first | done | fail) (hs:∀ w,(sizeOf tt).run P w=.ok m w:=by intro w;simp;(try rfl);first | done | fail) (hg:D0 ops.toList l gd=F true:=by rfl):
  Rz P n ds d ops K T (i::pl) pend (Mem C w0 Az) (Mem C w0 A) l:=
 Zz.takeS hz ho hg rfl (fun a w ha hw=>run_load hx ha (by
  obtain⟨Fz,h1,_⟩:=hw.has hb;have:=(An.cs h1).drop o;rw[Nat.zero_add] at this;exact Hr this hv (ht w) (hs w))) h
theorem Zz.new {op:Op} {vs cs:List Value} {bt:TypeId} (h:∀ b,w0.heap.size<=b->Rz P n ds d ops K T pl pend (Mem C w0 Az) (Mem C w0 (blk b cs bt::A)) ((t,.pointer (F ⟨b,0,O⟩))::l)) (hz:∀ w,Mem C w0 A w->Mem C w0 Az w:=by exact fun w h=>h.sel) (ho:AQ ops.toList i=F ⟨F t,op,ty,ps,af,gd⟩:=by rfl) (hg:D0 ops.toList l gd=F true:=by rfl)
  (hs:evs l op.operands.toList=F vs:=by rfl) (hq:quiet P op=false:=by first | rfl | kernel_rfl)
  (hv:∀ ρ w,GD ρ op.operands.toList vs->(execOp ρ ⟨F t,op,ty,ps,af,gd⟩).run P w=.ok (.value (.pointer (F ⟨w.heap.size,0,O⟩))) (w.alloc (.cells cs.toArray bt)):=by intro ρ w h;simp only[Op.operands,Call.operands,GD,Array.toList_append,List.toList_toArray,List.map_cons,List.map_nil,List.nil_append,List.cons_append] at h;simp[go_sem,h];(try rfl);first | done | fail):Rz P n ds d ops K T (i::pl) pend (Mem C w0 Az) (Mem C w0 A) l:=
 Zz.eff (ι:={b:Nat // w0.heap.size<=b}) (Si:=fun b=>Mem C w0 (blk b.1 cs bt::A)) (li:=fun b=>(t,.pointer (F ⟨b.1,0,O⟩))::l) ho hg hq
  (fun a w K' ha hd hw hk=>by
   unfold FI;rw[hv a.eval w (ha.evs _ _ hs).1];exact hk ⟨w.heap.size,hw.1.size⟩ _ _ (hw.alloc cs bt) (hd _)) (fun x w h=>hz w (h.sub (List.sublist_cons_self ..))) (fun x=>h x.1 x.2)
theorem Zz.bs {op:Op} {vs cs:List Value} {bt:TypeId} {m:Nat} (h:∀ b,w0.heap.size<=b->Rz P n ds d ops K T pl pend (Mem C w0 Az) (Mem C w0 (blk b cs bt::A)) ((t,Z (F ⟨b,0,O⟩) m m)::l)) (hz:∀ w,Mem C w0 A w->Mem C w0 Az w:=by exact fun w h=>h.sel) (ho:AQ ops.toList i=F ⟨F t,op,ty,ps,af,gd⟩:=by rfl) (hg:D0 ops.toList l gd=F true:=by rfl)
  (hs:evs l op.operands.toList=F vs:=by rfl) (hq:quiet P op=false:=by first | rfl | kernel_rfl)
  (hv:∀ ρ w,GD ρ op.operands.toList vs->(execOp ρ ⟨F t,op,ty,ps,af,gd⟩).run P w=.ok (.value (Z (F ⟨w.heap.size,0,O⟩) m m)) (w.alloc (.cells cs.toArray bt)):=by intro ρ w h;simp only[Op.operands,Call.operands,GD,Array.toList_append,List.toList_toArray,List.map_cons,List.map_nil,List.nil_append,List.cons_append] at h;simp[go_sem,h];(first | rfl | exact⟨rfl,rfl⟩ | skip);first | done | fail):Rz P n ds d ops K T (i::pl) pend (Mem C w0 Az) (Mem C w0 A) l:=
 Zz.eff (ι:={b:Nat // w0.heap.size<=b}) (Si:=fun b=>Mem C w0 (blk b.1 cs bt::A)) (li:=fun b=>(t,Z (F ⟨b.1,0,O⟩) m m)::l) ho hg hq
  (fun a w K' ha hd hw hk=>by
   unfold FI;rw[hv a.eval w (ha.evs _ _ hs).1];exact hk ⟨w.heap.size,hw.1.size⟩ _ _ (hw.alloc cs bt) (hd _)) (fun x w h=>hz w (h.sub (List.sublist_cons_self ..))) (fun x=>h x.1 x.2)
theorem Zz.app {s x:Operand} {tt e sz bytes k m c:Nat} {ad:Addr} {v:Value} {xs news:List Value} {A':Value->List Aw} (hE:El P tt e sz bytes) (hc:∀ w,Mem C w0 A w->∀ j u,news[j]? =F u->w.cell? (ad.add j)=F u) (hnm:k+m<=1000000)
  (h:∀ a c,Rz P n ds d ops K T pl pend (Mem C w0 Az) (Mem C w0 (A' (Z a (k+m) c))) ((t,Z a (k+m) c)::l))
  (ho:AQ ops.toList i=F ⟨F t,.call {callee:=.builtin .append,args:=#[s,x],argTypes:=#[tt,tt]},ty,ps,af,gd⟩:=by rfl) (hs:ev l s=F v:=by rfl) (hx:ev l x=F (Z (F ad) m c):=by rfl)
  (hr:∀ v',E5 (An e sz v k xs) (An e sz v' (k+m) (xs++news)) A (A' v'):=by intro v';(repeat (first | exact E5.hd | apply E5.tl));first | done | fail) (hl:news.length=m*sz:=by rfl) (h1:news.all Value.oneCell'=true:=by rfl)
  (hp:∀ (y:Option Addr×Nat) w,Mem C w0 (A' (Z y.1 (k+m) y.2)) w->Mem C w0 Az w:=by exact fun y w h=>h.sel) (hg:D0 ops.toList l gd=F true:=by rfl):Rz P n ds d ops K T (i::pl) pend (Mem C w0 Az) (Mem C w0 A) l:=
 Zz.eff (ι:=Option Addr×Nat) (Si:=fun y=>Mem C w0 (A' (Z y.1 (k+m) y.2))) (li:=fun y=>(t,Z y.1 (k+m) y.2)::l) ho hg rfl (fun a w K' ha hd hw hk=>by
  obtain⟨i0,z,hi,hz,hzs,hsz,hby⟩:∃ i0 z,P.info? e=F i0/\i0.zero=F z/\z.cells.size=sz/\i0.size=sz/\i0.bytes=bytes:=by
   have:=hE.info;cases hi:P.info? e with
   | none=>rw[hi] at this;cases this
   | some i0=>
    rw[hi] at this;simp only[Option.map_some,Option.some.injEq,Prod.mk.injEq] at this;obtain⟨h1,h2,h3⟩:=this;cases hz:i0.zero with
    | none=>rw[hz] at h1;cases h1
    | some z=>rw[hz] at h1;simp at h1;exact⟨i0,z,rfl,hz,h1,h2,h3⟩
  obtain⟨G,⟨g1,g2⟩,g3,_⟩:=hw.rep (hr v);have hcs:=hc w hw;have hnews:=hcs;obtain⟨v',w',hrun,k1,k2,_,k4⟩:=run_append_own_at (P:=P) w 0 tt ty e i0 z sz bytes hE.und hi hz hsz hby hzs hE.pos v k xs g1 ad m c news hl hnews (fun u hu=>List.all_eq_true.1 h1 u hu) (by unfold maxLen;omega)
   (Nat.le_trans (Nat.mul_le_mul hnm hE.small) (by decide)) (Nat.zero_le _)
  obtain⟨G2,⟨_,i2⟩,i3,i4⟩:=hw.rep (hr v');obtain⟨a',c',hv'⟩:∃ a' c',v'=Z a' (k+m) c':=by
   rcases k1.2 with ⟨e1,e2⟩ | ⟨g,cap,cur,e1,_⟩
   ·exact⟨O,0,by rw[e1,e2]⟩
   ·exact⟨_,cap,e1⟩
  subst hv';have hm:Mem C w0 (A' (Z a' (k+m) c')) w':=by
   refine i4 (fun b=>(Value.slice a' (k+m) c').ownBlock=F b) w' ⟨k1,fun b hb=>hb⟩ ⟨k2.os,k2.tape,k2.output,k2.size,fun b hb hn=>k2.block b hb (fun e=>hn (i2 b e.symm))⟩ (fun b hb=>⟨?_,?_⟩)
   ·rcases k1.2 with ⟨e1,_⟩ | ⟨g,cap,cur,e1,_,hg,_⟩
    ·rw[e1] at hb;cases hb
    ·rw[e1] at hb;cases hb;exact(Gl hg)
   ·rcases k4 with k4 | k4
    ·exact .inl (i2 b (k4.symm.trans hb))
    ·rw[k4] at hb;cases hb;exact .inr Nr
  unfold FI;have:(execOp a.eval ⟨F t,.call {callee:=.builtin .append,args:=#[s,x],argTypes:=#[tt,tt]},ty,ps,af,gd⟩).run P w=.ok (.value (Z a' (k+m) c')) w':=by
   simp[execOp,resolve,invoke,builtin,Sem.run_bind,pure,ha.ev hs,ha.ev hx,hrun]
  rw[this];exact hk (a',c') _ _ hm (hd _)) hp (fun y=>h y.1 y.2)
theorem Zz.cf {ι:Type} {v:ι->Value} {X:ι->List Aw} {f:FuncId} {fn:Operand} {fs cs:Array Value} {args:List Operand} {ts:Array TypeId} {vs aa:List Value}
  (hc:∀ w,Mem C w0 A w->Calls P f aa.toArray w fun e w'=>∃ x,e=.returned (v x)/\Fr w w' (X x)) (h:∀ x,Rz P n ds d ops K T pl pend (Mem C w0 Az) (Mem C w0 (X x++A)) ((t,v x)::l)) (hz:∀ w,Mem C w0 A w->Mem C w0 Az w:=by exact fun w h=>h.sel)
  (ho:AQ ops.toList i=F ⟨F t,.call {callee:=.value fn,args:=args.toArray,argTypes:=ts},ty,ps,af,gd⟩:=by rfl) (hf:ev l fn=F (.func (.func f) fs cs):=by rfl) (hs:evs l args=F vs:=by rfl) (he:fs.toList++(vs++cs.toList)=aa:=by rfl) (hr:∀ args w,(callFunc f args).run P w=.ok (.enter f args) w:=by intro args w;simp;first | done | fail)
  (hg:D0 ops.toList l gd=F true:=by rfl):Rz P n ds d ops K T (i::pl) pend (Mem C w0 Az) (Mem C w0 A) l:=
 Zz.eff (Si:=fun x=>Mem C w0 (X x++A)) (li:=fun x=>(t,v x)::l) ho hg rfl (fun a w K' ha hd hw hk=>by
  unfold FI;rw[FQ ha hf hs hr he];exact(hc w hw).mono (by rintro e w' ⟨x,rfl,hm⟩;exact⟨_,rfl,hk x _ _ (hw.fr hm) (hd _)⟩)) (fun x w h=>hz w (h.sub (List.sublist_append_right ..))) h
end
theorem Wz {Jz J':Prop} (k:J') (h:J'->Jz:=by first | exact Zz.add | exact Zz.sub | exact Zz.p | exact Zz.lb | exact Zz.u):Jz:=h k
end
section
def Dm {ι:Type} (P:Program) (f:FuncId) (aa:Array Value) (w:Y) (X:Aw) (Qz:(Nat->Prop)->Prop) (v:ι->Value) (X':ι->Aw):Prop:=
 ∀ Fz:Nat->Prop,X.is Fz w->(∀ b,Fz b->b<w.heap.size)->Qz Fz->Calls P f aa w fun e w'=>∃ x,e=.returned (v x)/\∃ F':Nat->Prop,B4 Fz w w'/\(∀ b,F' b->b<w'.heap.size/\(Fz b\/w.heap.size<=b))/\(X' x).is F' w'
section
variable {P:Program} {n:Nat} {ds:List Deferred} {d:Bool} {ops:Array Oper} {K:Act->Y->Prop} {i:Nat} {pl pend pend':List Nat} {l:Env}
 {t:Nat} {ty:TypeId} {ps:String} {af:Array Edge} {gd:Option (Nat×Bool)} {C:Nat->Prop} {w0:Y} {A Z0:List Aw}
theorem R.cq {ι:Type} {v:ι->Value} {X:Aw} {Qz:(Nat->Prop)->Prop} {X':ι->Aw} {f:FuncId} {fn:Operand} {fs cs:Array Value} {args:List Operand} {ts:Array TypeId} {vs aa:List Value}
  (hc:∀ w,Mem C w0 A w->Dm P f aa.toArray w X Qz v X') (hq:∀ Fz:Nat->Prop,(∀ b,Fz b->w0.heap.size<=b\/C b)->Qz Fz) (h:∀ x,Rj P n ds d ops K pl pend' (Mem C w0 (X' x::Z0)) ((t,v x)::l)) (hk:Pk X A Z0:=by(repeat (first | exact Pk.hd | apply Pk.tl));first | done | fail)
  (ho:AQ ops.toList i=F ⟨F t,.call {callee:=.value fn,args:=args.toArray,argTypes:=ts},ty,ps,af,gd⟩:=by rfl) (hf:ev l fn=F (.func (.func f) fs cs):=by rfl) (hs:evs l args=F vs:=by rfl) (he:fs.toList++(vs++cs.toList)=aa:=by rfl) (hr:∀ args w,(callFunc f args).run P w=.ok (.enter f args) w:=by intro args w;simp;first | done | fail)
  (hp:Wq d ops i pend pend' (fun x=>Mem C w0 (X' x::Z0)) (Mem C w0 A):=by first | exact .inl ⟨rfl,rfl⟩ | exact .inr (.inl ⟨rfl,rfl⟩)) (hg:D0 ops.toList l gd=F true:=by rfl):Rj P n ds d ops K (i::pl) pend (Mem C w0 A) l:=
 R.cx (A':=fun x=>X' x::Z0) (fun w hw=>by
  obtain⟨Fz,h1,h2,h3⟩:=hw.own hk;exact(hc w hw Fz h1 (fun b hb=>(h2 b hb).1) (hq Fz fun b hb=>(h2 b hb).2)).mono fun e w' ⟨x,he,F',hx,hf,hi⟩=>⟨x,he,h3 _ F' w' hi hx hf⟩) h ho hf hs he hr hp hg
end
section
variable {C:Nat->Prop} {w0 w:Y} {A B Zz:List Aw}
theorem Mem.ownNil (h:Mem C w0 A w) (e:TypeId) (sz:Nat):Mem C w0 (An e sz (Z O 0 0) 0 []::A) w:=⟨h.1,fun _=>False,⟨⟨by simp,.inl ⟨rfl,rfl⟩⟩,fun b hb=>by cases hb⟩,fun _ e=>e.elim,h.2.mono (fun b hb=>⟨hb,fun e=>e⟩) (fun _ _=>rfl)⟩
theorem FK:Mem C w0 (star A::(B++Zz)) w->Mem C w0 (star (A++B)::Zz) w:=by
 rintro⟨he,Fz,h1,h2,h3⟩;obtain⟨F',k1,k2,k3⟩:=Cq.split h3;refine⟨he,fun b=>Fz b\/F' b,?_,fun b hb=>hb.elim (h2 b) (fun h=>(k2 b h).1),k3.mono (fun b hb=>⟨hb.1.1,fun h=>h.elim hb.1.2 hb.2⟩) (fun _ _=>rfl)⟩;exact Cq.join (A:=A) (Fz:=Fz) h1 (fun b hb=>.inl hb) (k1.mono (fun b hb=>⟨.inr hb,(k2 b hb).2⟩) (fun _ _=>rfl))
end
def XO (ct nt it:TypeId) (c:Nat) (s:St) (q:Nat×Value×List (Value×Value)):List Aw:=
 [blk c [I J 0,q.2.1,.map (F q.1)] ct,MZ Value.string q.1 (Ce (Value.int .i64) s.names),An nt 6 q.2.1 s.nodes.length (BE s.nodes q.2.2),star (FS it s.nodes q.2.2),pr (q.2.2.length=s.nodes.length/\s.nodes.length<=200)]
def XQ (ct nt it:TypeId) (c:Nat) (s:St):Aw:=JB fun q=>star (XO ct nt it c s q)
section
variable {ct nt it:TypeId} {c:Nat} {s:St} {C:Nat->Prop} {w0 w:Y} {A Z0:List Aw}
theorem JR (h:Mem C w0 A w) (hk:Pk (XQ ct nt it c s) A Z0):∃ q:Nat×Value×List (Value×Value),Mem C w0 (XO ct nt it c s q++Z0) w:=let ⟨q,hq⟩:=(h.pk hk).ex;⟨q,hq.star⟩
theorem IJ (q:Nat×Value×List (Value×Value)) (h:Mem C w0 (XO ct nt it c s q++Z0) w):Mem C w0 (XQ ct nt it c s::Z0) w:=Mem.toEx (f:=fun q=>star (XO ct nt it c s q)) q (Mem.toStar (B:=XO ct nt it c s q) h)
theorem Yn (h:Mem C w0 A w) (hk:XQ ct nt it c s∈A):s.nodes.length<=200/\∃ (nb:Nat) (LA:Option Addr) (lc:Nat),Cs w c 0 [I J 0,Z LA s.nodes.length lc,.map (F nb)]/\Mp w Value.string nb (Ce (Value.int .i64) s.names):=by
 obtain⟨Fz,⟨q,hq⟩,_⟩:=h.has hk;obtain⟨F1,⟨_,a1⟩,_,F2,⟨_,es,cl,b1,b2⟩,_,F3,⟨⟨c0,c1⟩,_⟩,_,F4,_,_,F5,⟨_,d1⟩,_⟩:=hq;refine⟨d1,q.1,?_⟩;rcases c1 with ⟨e,e0⟩ | ⟨g,cap,cur,e,_⟩
 ·exact⟨O,0,by have:=Cs.of_blk a1;rw[e] at this;rwa [e0],es,cl,b1,b2⟩
 ·exact⟨_,cap,by have:=Cs.of_blk a1;rw[e] at this;exact this,es,cl,b1,b2⟩
end
mutual
theorem FH (chk:Tr->Int->St->Int):∀ (t:Tr) (deep:Int) (s:St),s.nodes.length<=(BO chk deep t s).1.nodes.length/\∀ i,i<s.nodes.length->(BO chk deep t s).1.nodes[i]? =s.nodes[i]?
 | .mk k nm x ks ts,deep,s=>by
  unfold BO;split
  ·split
   ·exact⟨Nat.le_refl _,fun i _=>rfl⟩
   ·have hl:(s.node k nm x ks).nodes.length=s.nodes.length+1:=by simp[St.node]
    obtain⟨h1,h2,_⟩:=Pn chk ts deep s.nodes.length (s.node k nm x ks) (by omega);have key:s.nodes.length<=(D3 chk deep s.nodes.length ts (s.node k nm x ks)).1.nodes.length/\∀ i,i<s.nodes.length->(D3 chk deep s.nodes.length ts (s.node k nm x ks)).1.nodes[i]? =s.nodes[i]? :=
     ⟨by omega,fun i hi=>by rw[h2 i (by omega) (by omega)];exact List.getElem?_append_left hi⟩
    dsimp only
    split
    ·exact key
    ·exact key
  ·exact⟨Nat.le_refl _,fun i _=>rfl⟩
theorem Pn (chk:Tr->Int->St->Int):∀ (ts:List Tr) (deep:Int) (a:Nat) (s:St),a<s.nodes.length->s.nodes.length<=(D3 chk deep a ts s).1.nodes.length/\(∀ i,i<s.nodes.length->i≠a->(D3 chk deep a ts s).1.nodes[i]? =s.nodes[i]?)/\True
 | [],deep,a,s,_=>⟨Nat.le_refl _,fun i _ _=>rfl,trivial⟩
 | t::r,deep,a,s,ha=>by
  obtain⟨h1,h2⟩:=FH chk t (deep+1) s;unfold D3;dsimp only
  have kl:∀ (s:St) (v:Int),(s.kid a v).nodes.length=s.nodes.length:=fun s v=>by simp[St.kid]
  have kg:∀ (s:St) (v:Int) (i:Nat),i≠a->(s.kid a v).nodes[i]? =s.nodes[i]? :=fun s v i h=>by
   have h:¬a=i:=fun e=>h e.symm;unfold St.kid;rw[List.getElem?_modify];simp[h]
  split
  ·obtain⟨k1,k2,_⟩:=Pn chk r deep a ((BO chk (deep+1) t s).1.kid a (BO chk (deep+1) t s).2.1) (by rw[kl];omega);rw[kl] at k1 k2;exact⟨by omega,fun i hi hn=>by rw[k2 i (by omega) hn,kg _ _ _ hn,h2 i hi],trivial⟩
  ·exact⟨by rw[kl];exact h1,fun i hi hn=>by rw[kg _ _ _ hn,h2 i hi],trivial⟩
end
end
section
set_option maxRecDepth 100000
def PS (k:Int) (nm:ByteArray) (x:Sc) (kv tv:Value):List Value:=[I J k,Q nm,I J x.kind,I J x.num,Q x.str,kv,tv]
theorem K0 (b o c:Nat) (bs:List Bool) (w:Y) (h:Cs w b o (bs.map .bool)) (hn:bs.length<=1000):
  Calls Tryz.prog 230 #[Z (F ⟨b,o,O⟩) bs.length c] w fun e w'=>e=.returned (.bool (US bs))/\Below w.heap.size w w':=by
 refine V.enter _ Tryz.func230 (Mem.start (C:=A5) w) ?_
 repeat refine W ?_
 refine R.c (fun w' h'=>Jc b o c bs false w' (h'.1.cs h fun e=>e) hn) ?_
 repeat refine W ?_
 refine V.end fun w' h'=>?_;exact⟨by simp[one,US],h'.1.below⟩
theorem ZV (x y:Sc) (w:Y):(binOp .eql 36 (Ev x) (Ev y)).run Tryz.prog w=.ok (.bool (decide (x=y))) w:=by
 have h0:(x.kind==y.kind&&(x.num==y.num&&x.str.toList==y.str.toList))=decide (x=y):=by
  rw[ByteArray.toList_eq,ByteArray.toList_eq,Bool.eq_iff_iff];simp only[Bool.and_eq_true,beq_iff_eq,decide_eq_true_eq]
  constructor
  ·rintro⟨h1,h2,h3⟩;exact KH (by simp[Jf,h1,h2,h3])
  ·rintro rfl;exact⟨rfl,rfl,rfl⟩
 rw[<- h0];obtain⟨k1,n1,s1⟩:=x;obtain⟨k2,n2,s2⟩:=y;unfold Ev;rw[run_eql_struct];dsimp only
 cases h1:(k1==k2)<;>cases h2:(n1==n2)<;>cases h3:(s1.toList==s2.toList)<;>go_simp
section
variable {P:Program} {n:Nat} {ds:List Deferred} {d:Bool} {ops:Array Oper} {K:Act->Y->Prop} {i:Nat} {pl pend:List Nat} {S:Y->Prop} {l:Env} {t:Nat} {ty:TypeId} {ps:String} {af:Array Edge} {gd:Option (Nat×Bool)}
theorem R.bin {o:BinOp} {x y:Operand} {tt t2:TypeId} {a b:Array Value} {v:Value} (hE:∀ w,(binOp o tt (.agg a) (.agg b)).run P w=.ok v w) (h:Rj P n ds d ops K pl pend S ((t,v)::l)) (ho:AQ ops.toList i=F ⟨F t,.binOp o tt x y t2,ty,ps,af,gd⟩:=by rfl) (hx:ev l x=F (.agg a):=by rfl) (hy:ev l y=F (.agg b):=by rfl) (hG:P.eqGuardType P.depth tt=false:=by kernel_rfl) (hg:D0 ops.toList l gd=F true:=by rfl):Rj P n ds d ops K (i::pl) pend S l:=
 R.takeP ho hg rfl (by rw[if_pos rfl];intro a' w ha;simp[execOp,ha.ev hx,ha.ev hy,run_eqGuard_agg w o tt x y a b hG,hE,Sem.run_bind,Sem.run,pure]) h
end
theorem Lz (k:Int) (nm:ByteArray) (x:Sc) (kv tv:Value) (w:Y):Calls Tryz.prog 231 #[.agg (PS k nm x kv tv).toArray] w fun e w'=>e=.returned (.bool (decide (x=AJ)))/\Below w.heap.size w w':=by
 refine V.enter _ Tryz.func231 (Mem.start (C:=A5) w) ?_
 repeat (first | refine W ?_ | refine R.new fun _ _=>?_)
 refine R.bin (ZV x AJ) ?_
 repeat refine W ?_
 refine V.end fun w' h'=>?_;exact⟨rfl,h'.1.below⟩
theorem XT (S:Nat->Prop) (rt:Sc->Bool) (k:Int) (nm:ByteArray) (x:Sc) (A:Option Addr) (c:Nat) (ks:List Sc) (tv:Value) (w:Y) (h:GZ w S A ks) (hn:ks.length<=1000000) (hR:∀ y∈ks,Bk 139 rt y w):
  Calls Tryz.prog 232 #[.agg (PS k nm x (Z A ks.length c) tv).toArray] w fun e w'=>e=.returned (.bool (ks.all rt))/\Below w.heap.size w w':=by
 refine V.enter _ Tryz.func232 (Mem.start (C:=A5) w) ?_
 repeat (first | refine W ?_ | refine R.new fun _ _=>?_)
 refine R.c (fun w' h'=>Ie S A c ks _ (fun y=> !rt y) w' (h.to fun b o v hb hv=>⟨h'.1.cell hv (fun e=>e),hb⟩) (fun y hy=>(QV rt y w (hR y hy)).to h'.1.below) hn (by intro args w;simp)) ?_
 repeat refine W ?_
 refine V.end fun w' h'=>?_;exact⟨by simp[one,List.any_eq_not_all_not],h'.1.below⟩
theorem OH (a b:Nat):((a:Int)==(b:Int))=decide (a=b):=by rw[Bool.eq_iff_iff];simp;omega
theorem Acq (rt:Sc->Bool) (k:Int) (nm:ByteArray) (x:Sc) (A B:Option Addr) (kl kc tl tc:Nat) (w:Y) (hR:Bk 139 rt x w):
  Calls Tryz.prog 198 #[.agg (PS k nm x (Z A kl kc) (Z B tl tc)).toArray] w fun e w'=>e=.returned (.bool (Nw rt x kl tl))/\Below w.heap.size w w':=by
 refine V.enter _ Tryz.func198 (Mem.start (C:=A5) w) ?_
 repeat (first | refine W ?_ | refine R.new fun _ _=>?_)
 refine R.c (fun w' h'=>hR w' h'.1.below) ?_
 repeat refine W ?_
 refine R.bs fun b hb=>?_;refine R.c (fun w' h'=>K0 b 0 3 [rt x,(kl:Int)==0,(tl:Int)==0] w' (Cs.of_blk (h'.blk (List.Mem.head _))) (by simp)) ?_
 repeat refine W ?_
 refine V.end fun w' h'=>?_;exact⟨by rw[Xk,show((kl:Int)==0)=decide (kl=0) from OH kl 0,show((tl:Int)==0)=decide (tl=0) from OH tl 0];rfl,h'.1.below⟩
theorem Ach (k:Int) (nm:ByteArray) (x:Sc) (A:Option Addr) (kl kc:Nat) (tv:Value) (w:Y):
  Calls Tryz.prog 199 #[.agg (PS k nm x (Z A kl kc) tv).toArray] w fun e w'=>e=.returned (.bool (O3 x kl))/\Below w.heap.size w w':=by
 refine V.enter _ Tryz.func199 (Mem.start (C:=A5) w) ?_
 repeat (first | refine W ?_ | refine R.new fun _ _=>?_)
 refine R.c (fun w' h'=>Lz k nm x (Z A kl kc) tv w') ?_
 repeat refine W ?_
 refine R.bs fun b hb=>?_;refine R.c (fun w' h'=>K0 b 0 2 [decide (x=AJ),(kl:Int)==0] w' (Cs.of_blk (h'.blk (List.Mem.head _))) (by simp)) ?_
 repeat refine W ?_
 refine V.end fun w' h'=>?_;exact⟨by rw[Ak6,show((kl:Int)==0)=decide (kl=0) from OH kl 0];rfl,h'.1.below⟩
theorem Acz (S:Nat->Prop) (rt:Sc->Bool) (k:Int) (nm:ByteArray) (x:Sc) (A B:Option Addr) (kc tl tc:Nat) (ks:List Sc) (w:Y) (h:GZ w S A ks) (hn:ks.length<=1000000) (hR:∀ y∈ks,Bk 139 rt y w):
  Calls Tryz.prog 200 #[.agg (PS k nm x (Z A ks.length kc) (Z B tl tc)).toArray] w fun e w'=>e=.returned (.bool (Uz rt x ks tl))/\Below w.heap.size w w':=by
 refine V.enter _ Tryz.func200 (Mem.start (C:=A5) w) ?_
 repeat (first | refine W ?_ | refine R.new fun _ _=>?_)
 refine R.c (fun w' h'=>Lz k nm x (Z A ks.length kc) (Z B tl tc) w') ?_
 repeat refine W ?_
 refine R.c (fun w' h'=>XT S rt k nm x A kc ks (Z B tl tc) w' (h.to fun b o v hb hv=>⟨h'.1.cell hv (fun e=>e),hb⟩) hn (fun y hy=>(hR y hy).to h'.1.below)) ?_
 repeat refine W ?_
 refine R.bs fun b hb=>?_;refine R.c (fun w' h'=>K0 b 0 3 [decide (x=AJ),(ks.length:Int)==(tl:Int),ks.all rt] w' (Cs.of_blk (h'.blk (List.Mem.head _))) (by simp)) ?_
 repeat refine W ?_
 refine V.end fun w' h'=>?_;exact⟨by rw[Xk,OH];rfl,h'.1.below⟩
theorem Z3 (k:Int) (nm:ByteArray) (x:Sc) (A B:Option Addr) (kl kc tl tc:Nat) (w:Y):
  Calls Tryz.prog 201 #[.agg (PS k nm x (Z A kl kc) (Z B tl tc)).toArray] w fun e w'=>e=.returned (.bool (Uw nm x kl tl))/\Below w.heap.size w w':=by
 refine V.enter _ Tryz.func201 (Mem.start (C:=A5) w) ?_
 repeat (first | refine W ?_ | refine R.new fun _ _=>?_)
 refine R.c (fun w' h'=>Lz k nm x (Z A kl kc) (Z B tl tc) w') ?_
 repeat refine W ?_
 refine R.bs fun b hb=>?_;refine R.c (fun w' h'=>K0 b 0 4 [decide (x=AJ),(kl:Int)==0,(tl:Int)==0,!nm.toList.isEmpty] w' (Cs.of_blk (h'.blk (List.Mem.head _))) (by simp)) ?_
 repeat refine W ?_
 refine V.end fun w' h'=>?_;exact⟨by rw[Ahi,show((kl:Int)==0)=decide (kl=0) from OH kl 0,show((tl:Int)==0)=decide (tl=0) from OH tl 0];rfl,h'.1.below⟩
end
end Go.Proofs.YtdpppepmkeinaaaGreatDoor
