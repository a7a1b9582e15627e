/- What is proved: a part of the walk of the program and of its plain laws; no condition beside those that each theorem names. -/
import Derived.Test.YtdpppepmkeinaaaGreatDoorYl
import Derived.Test.YtdpppepmkeinaaaGreatDoorYk
import Derived.Test.YtdpppepmkeinaaaGreatDoorYe
import Derived.Test.YtdpppepmkeinaaaGreatDoorYa
namespace Go.Proofs.YtdpppepmkeinaaaGreatDoor
open Go Go.RowKit Go.Lib
open Go.Value renaming int->I,string->Q,slice->Z
open Go.IntKind renaming i64->J
open Option renaming none->O,some->F
open _root_.Go renaming World->Y
set_option linter.unusedSimpArgs false
set_option linter.unusedVariables false
set_option linter.unusedSectionVars false
section
def Po (P:Program) (ops:Array Oper) (n:Nat) (T:List Nat):List Nat->Bool
 | []=>true
 | i::pl=>(match ops[i]? with
  | some o=>Il n o&& !(pl++T).contains i&&(if quiet P o.op then (Region.ready .any ops (lst ops (i::(pl++T)))).contains i&&Region.free .any ops (lst ops (i::(pl++T))) i else Region.ready .any ops (lst ops (i::(pl++T)))==[i])&&((List.range ops.size).all fun m=> !(lst ops (i::(pl++T))).getD m false|| !Cp ops m i)
  | none=>false)&&Po P ops n T pl
def K0 (P:Program) (d:Bool) (ops:Array Oper) (n:Nat) (T pl:List Nat):Bool:=match d with
 | true=>Po P ops n T pl&&Region.noSelect ops
 | false=>okF ops n pl
def Rz (P:Program) (n:Nat) (ds:List Deferred) (d:Bool) (ops:Array Oper) (K:Act->Y->Prop) (T pl pend:List Nat) (Zf S:Y->Prop) (l:Env):Prop:=
 K0 P d ops n T pl=true->match d with
 | false=>∀ a w,Kn n ds l a->S w->Ou P ops K pl a w
 | true=>∀ Rs:Nat->Y->Prop,(∀ j,j∈pend->∀ w,Zf w->Rs j w)->∀ a w,Kn n ds l a->S w->D6 P .any ops K (Tm P ops Rs pend) (pl++T).length (lst ops (pl++T)) a w
section
variable {P:Program} {n:Nat} {ds:List Deferred} {d:Bool} {ops:Array Oper} {K:Act->Y->Prop} {i:Nat} {T pl pend:List Nat} {Zf S:Y->Prop} {l:Env}
theorem Pq:∀ pl:List Nat,Po P ops n [] pl=okL P ops n pl
 | []=>rfl
 | i::pl=>by simp only[Po,okL,List.append_nil,Pq pl];rfl
theorem QS:K0 P d ops n [] pl=M7 P d ops n pl:=by
 cases d with
 | false=>rfl
 | true=>show(Po P ops n [] pl&&_)=_;rw[Pq];rfl
theorem Zz.on (Zf:Y->Prop) (h:Rz P n ds d ops K [] pl [] Zf S l):Rj P n ds d ops K pl [] S l:=by
 intro hok;have h:=h (QS.trans hok);cases d with
 | false=>exact h
 | true=>dsimp only at h |-;rw[List.append_nil] at h;exact fun Rs _=>h Rs (fun j hj=>by cases hj)
theorem Zz.off (hSZ:∀ w,S w->Zf w) (h:Rj P n ds d ops K pl pend S l):Rz P n ds d ops K [] pl pend Zf S l:=by
 intro hok;have h:=h (QS.symm.trans hok);cases d with
 | false=>exact h
 | true=>dsimp only at h |-;rw[List.append_nil];exact fun Rs hRs=>h Rs (fun j hj w hw=>hRs j hj w (hSZ w hw))
theorem Oo (h:K0 P d ops n T (i::pl)=true):K0 P d ops n T pl=true/\∃ o,ops[i]? =F o/\Il n o=true:=by
 unfold K0 at*
 cases d with
 | true=>
  dsimp only at*
  rw[Bool.and_eq_true] at*
  obtain⟨h1,h2⟩:=h;unfold Po at h1;rw[Bool.and_eq_true] at h1;refine⟨⟨h1.2,h2⟩,?_⟩;have h3:=h1.1;cases ho:ops[i]? with
  | none=>rw[ho] at h3;cases h3
  | some o=>rw[ho] at h3;simp only[Bool.and_eq_true] at h3;exact⟨o,rfl,h3.1.1.1⟩
 | false=>exact Pj (P:=P) (d:=false) h
theorem KF {o:Oper} (h:Po P ops n T (i::pl)=true) (ho:ops[i]? =F o):(pl++T).contains i=false/\(quiet P o.op=true->i∈Region.ready .any ops (lst ops (i::(pl++T)))/\Region.free .any ops (lst ops (i::(pl++T))) i=true)∧
  (quiet P o.op=false->Region.ready .any ops (lst ops (i::(pl++T)))=[i])/\∀ m,(lst ops (i::(pl++T))).getD m false=true->Cp ops m i=false:=by
 unfold Po at h;rw[Bool.and_eq_true,ho] at h;have h1:=h.1;simp only[Bool.and_eq_true,Bool.not_eq_true',List.all_eq_true,List.mem_range,Bool.or_eq_true] at h1;obtain⟨⟨⟨_,h2⟩,h3⟩,h4⟩:=h1;refine⟨h2,fun e=>?_,fun e=>?_,fun m hm=>?_⟩
 ·rw[e] at h3;simpa using h3
 ·rw[e] at h3;simpa using h3
 ·have hlt:m<ops.size:=by
   rcases Nat.lt_or_ge m ops.size with h' | h'
   ·exact h'
   ·rw[Array.getD_eq_getD_getElem?,Array.getElem?_eq_none (by rw[CZ];exact h')] at hm;cases hm
  rcases h4 m hlt with h5 | h5
  ·rw[h5] at hm;cases hm
  ·exact h5
theorem Zz.take {o:Oper} {v:Value} {wt:Bool} (b:Bool) (hSZ:∀ w,S w->Zf w) (ho:Aw ops.toList i=F o) (hg:Cv ops.toList l o.guard=F wt) (hq:quiet P o.op=true) (hv:if wt=true then ∀ a w,Kn n ds l a->(b=true->Zf w)->(execOp a.eval o).run P w=.ok (.value v) w else v=undef)
  (h:Rz P n ds d ops K T pl (bif b then i::pend else pend) Zf S (addl l o.dst v)):Rz P n ds d ops K T (i::pl) pend Zf S l:=by
 intro hok;obtain⟨hok',o',ho',hd⟩:=Oo hok;rw[DB,Array.getElem?_toList] at ho;rw[ho] at ho';cases ho'
 have h:=h hok';have hsub:∀ k,k∈pend->k∈(bif b then i::pend else pend):=fun k hk=>by
  cases b
  ·exact hk
  ·exact List.mem_cons_of_mem _ hk
 cases d with
 | false=>
  dsimp only at h |-;intro a w ha hw;unfold Ou K5;rw[ho];dsimp only
  rw[BY ha hg];cases wt with
  | true=>
   rw[if_pos rfl] at hv |-;unfold Eo;rw[hv a w ha (fun _=>hSZ w hw)];exact h _ w (ha.addl hd v) hw
  | false=>
   rw[if_neg (by simp)] at hv |-;subst hv;exact h _ w (ha.addl hd _) hw
 | true=>
  dsimp only at h |-;intro Rs hRs a w ha hw;show D6 P .any ops K (Tm P ops Rs pend) ((pl++T).length+1) (lst ops (i::(pl++T))) a w;unfold K0 at hok;rw[Bool.and_eq_true] at hok;obtain⟨hcn,hrf,_,hlw⟩:=KF hok.1 ho;obtain⟨hr,hf⟩:=hrf hq;have hin:=h (fun j w=>(j∈pend->Rs j w)/\(j=i->wt=true->∀ a,Kn n ds l a->(execOp a.eval o).run P w=.ok (.value v) w))
   (fun j _ w hw=>⟨fun hj'=>hRs j hj' w hw,fun _ ht a ha=>by rw[ht,if_pos rfl] at hv;exact hv a w ha (fun _=>hw)⟩) (a.put o.dst v) w (ha.addl hd v) hw
  rw[<- Ef hcn] at hin;have hm:∀ m om,ops[m]? =F om->(lst ops (i::(pl++T))).getD m false=true->∀ e∈om.after,Region.binds .any e=true->e.on≠i:=fun m om hom hl=>(GH hom).1 (hlw m hl);have hwt:=BY ha hg;refine Er (fun _=>True) (fun _ _ _=>trivial) (fun L w _ hT k hk hmm=>(hT k (hsub k hk) hmm).1 hk) _ _ _ _ trivial
   (Ij (Zz:=fun w=>wt=true->∀ a,Kn n ds l a->(execOp a.eval o).run P w=.ok (.value v) w) ho (fun L w hT hm=>?_)
    (fun L w=>?_) (Region.noSelect_spec hok.2) _ _ _ _ (Region.free_spec ho hf) hr hm ?_ ?_ hin)
  ·intro ht a ha;cases b with
   | true=>exact(hT i (List.mem_cons_self ..) (fun m om hom _ hl=>(GH hom).2 (hm m om hom hl))).2 rfl ht a ha
   | false=>rw[ht,if_pos rfl] at hv;exact hv a w ha (fun e=>by cases e)
  ·constructor
   ·intro hT k hk hmm;refine hT k hk (fun m om hom hqm hl=>?_);by_cases e:i=m
    ·subst e;rw[ho] at hom;cases hom;rw[hq] at hqm;cases hqm
    ·rw[getD_set_ne false e] at hl;exact hmm m om hom hqm hl
   ·intro hT k hk hmm;exact hT k hk (fun m om hom hqm hl=>hmm m om hom hqm (getD_set_true hl))
  ·cases wt with
   | true=>exact .inl ⟨hwt,fun w hz=>hz rfl a ha⟩
   | false=>rw[if_neg (by simp)] at hv;exact .inr ⟨hwt,hv⟩
  ·intro k hk hmm;exact⟨fun hk'=>hRs k hk' w (hSZ w hw),fun _ ht a ha=>by rw[ht,if_pos rfl] at hv;exact hv a w ha (fun _=>hSZ w hw)⟩
theorem Zz.eff {ι:Type} {o:Oper} {Si:ι->Y->Prop} {li:ι->Env} (ho:Aw ops.toList i=F o) (hg:Cv ops.toList l o.guard=F true) (hq:quiet P o.op=false)
  (he:∀ a w (K':Act->Y->Prop),Kn n ds l a->(∀ v,Kn n ds (addl l o.dst v) (a.put o.dst v))->S w->(∀ x v w',Si x w'->Kn n ds (li x) (a.put o.dst v)->K' (a.put o.dst v) w')->Eo P o a w K')
  (hp:∀ x w,Si x w->Zf w) (h:∀ x,Rz P n ds d ops K T pl pend Zf (Si x) (li x)):Rz P n ds d ops K T (i::pl) pend Zf S l:=by
 intro hok;obtain⟨hok',o',ho',hd⟩:=Oo hok;rw[DB,Array.getElem?_toList] at ho;rw[ho] at ho';cases ho'
 have h:=fun x=>h x hok';cases d with
 | false=>
  dsimp only at h |-;intro a w ha hw;unfold Ou K5;rw[ho];dsimp only
  rw[BY ha hg,if_pos rfl];exact he a w _ ha (ha.addl hd) hw (fun x v w' hs hk=>h x _ w' hk hs)
 | true=>
  dsimp only at h |-;intro Rs hRs a w ha hw;show D6 P .any ops K (Tm P ops Rs pend) ((pl++T).length+1) (lst ops (i::(pl++T))) a w;unfold K0 at hok;rw[Bool.and_eq_true] at hok;obtain⟨hcn,_,hre,_⟩:=KF hok.1 ho;have hr:=hre hq;have hlt:i<ops.size:=(Gl ho)
  have hget:((lst ops (i::(pl++T))).setIfInBounds i true).getD i false=true:=by
   rw[Array.getD_eq_getD_getElem?,Array.getElem?_setIfInBounds_self_of_lt (by rw[CZ];exact hlt)];rfl
  refine⟨(fun h0=>by rw[hr] at h0;cases h0),?_⟩;rw[hr];intro j hj;obtain rfl:j=i:=by simpa using hj
  unfold K5;rw[ho];dsimp only
  rw[BY ha hg,if_pos rfl];refine he a w _ ha (ha.addl hd) hw (fun x v w' hs hk=>?_);have:=h x Rs hRs _ w' hk hs;rw[<- Ef hcn] at this;exact⟨fun k hk _=>hRs k hk w' (hp x w' hs),this⟩
end
section
variable {P:Program} {n:Nat} {ds:List Deferred} {d:Bool} {ops:Array Oper} {K:Act->Y->Prop} {i:Nat} {T pl pend:List Nat} {l:Env}
 {t:Nat} {ty:TypeId} {ps:String} {af:Array Edge} {gd:Option (Nat×Bool)} {C:Nat->Prop} {w0:Y} {A A' Z0:List Aj} {Zf S:Y->Prop}
theorem Zz.p {op:Op} {v:Value} {vs:List Value} (hz:∀ w,S w->Zf w:=by exact fun w h=>h.sel) (ho:Aw ops.toList i=F ⟨F t,op,ty,ps,af,gd⟩:=by rfl) (hg:Cv ops.toList l gd=F true:=by rfl) (hs:evs l op.operands.toList=F vs:=by rfl) (h0:KR op=true:=by rfl) (hq:quiet P op=true:=by first | rfl | kernel_rfl) (hv:∀ ρ w,EV ρ op.operands.toList vs->(execOp ρ ⟨F t,op,ty,ps,af,gd⟩).run P w=.ok (.value v) w:=by intro ρ w h;simp only[Op.operands,Call.operands,EV,Array.toList_append,List.toList_toArray,List.map_cons,List.map_nil,List.nil_append,List.cons_append] at h;simp[go_sem,h];(try rfl);first | done | fail):(Rz P n ds d ops K T pl pend Zf S ((t,v)::l))->Rz P n ds d ops K T (i::pl) pend Zf S l:=fun h=>
 Zz.take false hz ho hg hq (by rw[if_pos rfl];exact fun a w ha _=>hv a.eval w (ha.evs _ _ hs).1) h
theorem Zz.u {op:Op} (hz:∀ w,S w->Zf w:=by exact fun w h=>h.sel) (ho:Aw ops.toList i=F ⟨F t,op,ty,ps,af,gd⟩:=by rfl) (hg:Cv ops.toList l gd=F false:=by rfl) (h0:KR op=true:=by rfl) (hq:quiet P op=true:=by first | rfl | kernel_rfl):(Rz P n ds d ops K T pl pend Zf S ((t,undef)::l))->Rz P n ds d ops K T (i::pl) pend Zf S l:=fun h=>
 Zz.take false hz ho hg hq (by rw[if_neg (by simp)]) h
theorem Zz.add {x y:Operand} {tt t2:TypeId} {a b:Int} (hz:∀ w,S w->Zf w:=by exact fun w h=>h.sel) (ho:Aw ops.toList i=F ⟨F t,.binOp .add tt x y t2,ty,ps,af,gd⟩:=by rfl) (hx:ev l x=F (I J a):=by rfl) (hy:ev l y=F (I J b):=by rfl) (hr: -9223372036854775808<=a+b/\a+b<=9223372036854775807:=by omega) (hg:Cv ops.toList l gd=F true:=by rfl):(Rz P n ds d ops K T pl pend Zf S ((t,I J (a+b))::l))->Rz P n ds d ops K T (i::pl) pend Zf S l:=fun h=>
 Zz.take false hz ho hg rfl (by rw[if_pos rfl];intro a w ha _;simp[execOp,ha.ev hx,ha.ev hy,eqGuard,binOp,Op.intArith,Sem.run_bind,Sem.run,pure,IntWalk.i64_in _ hr]) h
theorem Zz.sub {x y:Operand} {tt t2:TypeId} {a b:Int} (hz:∀ w,S w->Zf w:=by exact fun w h=>h.sel) (ho:Aw ops.toList i=F ⟨F t,.binOp .sub tt x y t2,ty,ps,af,gd⟩:=by rfl) (hx:ev l x=F (I J a):=by rfl) (hy:ev l y=F (I J b):=by rfl) (hr: -9223372036854775808<=a - b/\a - b<=9223372036854775807:=by omega) (hg:Cv ops.toList l gd=F true:=by rfl):(Rz P n ds d ops K T pl pend Zf S ((t,I J (a - b))::l))->Rz P n ds d ops K T (i::pl) pend Zf S l:=fun h=>
 Zz.take false hz ho hg rfl (by rw[if_pos rfl];intro a w ha _;simp[execOp,ha.ev hx,ha.ev hy,eqGuard,binOp,Op.intArith,Sem.run_bind,Sem.run,pure,IntWalk.i64_in _ hr]) h
theorem Zz.ix {x y:Operand} {tt e:TypeId} {b o len c sz k:Nat} (hk:k<len) (h:Rz P n ds d ops K T pl pend Zf S ((t,.pointer (F ⟨b,o+k*sz,O⟩))::l)) (hz:∀ w,S w->Zf w:=by exact fun w h=>h.sel) (ho:Aw ops.toList i=F ⟨F t,.indexAddr tt x y,ty,ps,af,gd⟩:=by rfl)
  (hx:ev l x=F (Z (F ⟨b,o,O⟩) len c):=by rfl) (hy:ev l y=F (I J k):=by rfl) (hu:∀ w,(underlying tt).run P w=.ok (.slice e) w:=by intro w;simp;(try rfl);first | done | fail) (hs:∀ w,(sizeOf e).run P w=.ok sz w:=by intro w;simp;(try rfl);first | done | fail) (hg:Cv ops.toList l gd=F true:=by rfl):Rz P n ds d ops K T (i::pl) pend Zf S l:=
 Zz.take false hz ho hg rfl (by
  rw[if_pos rfl];intro a w ha _;have h2:(0:Int)<=(k:Int)/\(k:Int)<(len:Int):=⟨by omega,by omega⟩
  have h3:(⟨b,o,O⟩:Addr).add (k*sz)=⟨b,o+k*sz,O⟩:=by unfold Addr.add;split<;>simp_all
  simp[execOp,ha.ev hx,ha.ev hy,Instr.indexAt,asIntOf,Sem.run_bind,Sem.run,pure,hu,h2,hs,h3]) h
theorem Zz.takeS {o:Oper} {v:Value} (hz:∀ w,S w->Zf w) (ho:Aw ops.toList i=F o) (hg:Cv ops.toList l o.guard=F true) (hq:quiet P o.op=true) (hv:∀ a w,Kn n ds l a->Zf w->(execOp a.eval o).run P w=.ok (.value v) w)
  (h:Rz P n ds d ops K T pl (i::pend) Zf S (addl l o.dst v)):Rz P n ds d ops K T (i::pl) pend Zf S l:=
 Zz.take true hz ho hg hq (by rw[if_pos rfl];exact fun a w ha hw=>hv a w ha (hw rfl)) h
theorem Zz.re (t:Nat) {v v':Value} (e:v=v') (h:Rz P n ds d ops K T pl pend Zf S ((t,v')::l)) (hv:lk l t=F v:=by rfl):Rz P n ds d ops K T pl pend Zf S l:=by
 intro hok;have h:=h hok;cases d with
 | false=>exact fun a w ha hw=>h a w (ha.re hv e) hw
 | true=>exact fun Rs hRs a w ha hw=>h Rs hRs a w (ha.re hv e) hw
end
section
variable {P:Program} {n:Nat} {ds:List Deferred} {d:Bool} {ops:Array Oper} {K:Act->Y->Prop} {i:Nat} {T pl pend:List Nat} {l:Env}
 {t:Nat} {ty:TypeId} {ps:String} {af:Array Edge} {gd:Option (Nat×Bool)} {C:Nat->Prop} {w0:Y} {A Az Z0:List Aj}
theorem Zz.lb {x:Operand} {tt bt:TypeId} {b o m:Nat} {g:Bool} {v:Value} {cs:List Value} (hz:∀ w,Mem C w0 A w->Mem C w0 Az w:=by exact fun w h=>h.sel) (ho:Aw ops.toList i=F ⟨F t,.load tt x,ty,ps,af,gd⟩:=by rfl)
  (hx:ev l x=F (.pointer (F ⟨b,o,O⟩)):=by rfl) (hb:blk b cs bt∈Az:=by(repeat (first | exact List.Mem.head _ | apply List.Mem.tail));first | done | fail) (ht:∀ w,(isAgg tt).run P w=.ok g w:=by intro w;simp;(try rfl);first | done | fail) (hs:∀ w,(sizeOf tt).run P w=.ok m w:=by intro w;simp;(try rfl);first | done | fail) (hv:Zz g m (cs.drop o)=F v:=by rfl) (hg:Cv ops.toList l gd=F true:=by rfl):
  Rz P n ds d ops K T pl (i::pend) (Mem C w0 Az) (Mem C w0 A) ((t,v)::l)->Rz P n ds d ops K T (i::pl) pend (Mem C w0 Az) (Mem C w0 A) l:=fun h=>
 Zz.takeS hz ho hg rfl (fun a w ha hw=>run_load hx ha (by
  have:=(Cs.of_blk (hw.blk hb)).drop o;rw[Nat.zero_add] at this;exact Fu this hv (ht w) (hs w))) h
theorem Zz.lo {x:Operand} {tt:TypeId} {b o p m:Nat} {g:Bool} {v:Value} {vs:List Value} (j:Nat) (hc:Cs w0 b o vs) (h:Rz P n ds d ops K T pl (i::pend) (Mem C w0 Az) (Mem C w0 A) ((t,v)::l)) (hn:¬C b:=by exact fun h=>h) (hz:∀ w,Mem C w0 A w->Mem C w0 Az w:=by exact fun w h=>h.sel) (ho:Aw ops.toList i=F ⟨F t,.load tt x,ty,ps,af,gd⟩:=by rfl)
  (hx:ev l x=F (.pointer (F ⟨b,p,O⟩)):=by rfl) (hp:p=o+j:=by rfl) (ht:∀ w,(isAgg tt).run P w=.ok g w:=by intro w;simp;(try rfl);first | done | fail) (hs:∀ w,(sizeOf tt).run P w=.ok m w:=by intro w;simp;(try rfl);first | done | fail) (hv:Zz g m (vs.drop j)=F v:=by rfl) (hg:Cv ops.toList l gd=F true:=by rfl):Rz P n ds d ops K T (i::pl) pend (Mem C w0 Az) (Mem C w0 A) l:=
 Zz.takeS hz ho hg rfl (fun a w ha hw=>run_load hx ha (by subst hp;exact Fu ((hw.1.cs hc hn).drop j) hv (ht w) (hs w))) h
theorem Zz.lw {x:Operand} {tt e:TypeId} {b o c m sz gn:Nat} {g:Bool} {v:Value} {xs:List Value} (hv:Zz g m (xs.drop o)=F v) (h:Rz P n ds d ops K T pl (i::pend) (Mem C w0 Az) (Mem C w0 A) ((t,v)::l)) (hz:∀ w,Mem C w0 A w->Mem C w0 Az w:=by exact fun w h=>h.sel) (ho:Aw ops.toList i=F ⟨F t,.load tt x,ty,ps,af,gd⟩:=by rfl)
  (hx:ev l x=F (.pointer (F ⟨b,o,O⟩)):=by rfl) (hb:Af e sz (Z (F ⟨b,0,O⟩) gn c) gn xs∈Az:=by(repeat (first | exact List.Mem.head _ | apply List.Mem.tail));first | done | fail) (ht:∀ w,(isAgg tt).run P w=.ok g w:=by intro w;simp;(try rfl);first | done | fail) (hs:∀ w,(sizeOf tt).run P w=.ok m w:=by intro w;simp;(try rfl);first | done | fail) (hg:Cv ops.toList l gd=F true:=by rfl):
  Rz P n ds d ops K T (i::pl) pend (Mem C w0 Az) (Mem C w0 A) l:=
 Zz.takeS hz ho hg rfl (fun a w ha hw=>run_load hx ha (by
  obtain⟨Fz,h1,_⟩:=hw.has hb;have:=(Af.cs h1).drop o;rw[Nat.zero_add] at this;exact Fu this hv (ht w) (hs w))) h
theorem Zz.new {op:Op} {vs cs:List Value} {bt:TypeId} (h:∀ b,w0.heap.size<=b->Rz P n ds d ops K T pl pend (Mem C w0 Az) (Mem C w0 (blk b cs bt::A)) ((t,.pointer (F ⟨b,0,O⟩))::l)) (hz:∀ w,Mem C w0 A w->Mem C w0 Az w:=by exact fun w h=>h.sel) (ho:Aw ops.toList i=F ⟨F t,op,ty,ps,af,gd⟩:=by rfl) (hg:Cv ops.toList l gd=F true:=by rfl)
  (hs:evs l op.operands.toList=F vs:=by rfl) (hq:quiet P op=false:=by first | rfl | kernel_rfl)
  (hv:∀ ρ w,EV ρ op.operands.toList vs->(execOp ρ ⟨F t,op,ty,ps,af,gd⟩).run P w=.ok (.value (.pointer (F ⟨w.heap.size,0,O⟩))) (w.alloc (.cells cs.toArray bt)):=by intro ρ w h;simp only[Op.operands,Call.operands,EV,Array.toList_append,List.toList_toArray,List.map_cons,List.map_nil,List.nil_append,List.cons_append] at h;simp[go_sem,h];(try rfl);first | done | fail):Rz P n ds d ops K T (i::pl) pend (Mem C w0 Az) (Mem C w0 A) l:=
 Zz.eff (ι:={b:Nat // w0.heap.size<=b}) (Si:=fun b=>Mem C w0 (blk b.1 cs bt::A)) (li:=fun b=>(t,.pointer (F ⟨b.1,0,O⟩))::l) ho hg hq
  (fun a w K' ha hd hw hk=>by
   unfold Eo;rw[hv a.eval w (ha.evs _ _ hs).1];exact hk ⟨w.heap.size,hw.1.size⟩ _ _ (hw.alloc cs bt) (hd _)) (fun x w h=>hz w (h.sub (List.sublist_cons_self ..))) (fun x=>h x.1 x.2)
theorem Zz.bs {op:Op} {vs cs:List Value} {bt:TypeId} {m:Nat} (h:∀ b,w0.heap.size<=b->Rz P n ds d ops K T pl pend (Mem C w0 Az) (Mem C w0 (blk b cs bt::A)) ((t,Z (F ⟨b,0,O⟩) m m)::l)) (hz:∀ w,Mem C w0 A w->Mem C w0 Az w:=by exact fun w h=>h.sel) (ho:Aw ops.toList i=F ⟨F t,op,ty,ps,af,gd⟩:=by rfl) (hg:Cv ops.toList l gd=F true:=by rfl)
  (hs:evs l op.operands.toList=F vs:=by rfl) (hq:quiet P op=false:=by first | rfl | kernel_rfl)
  (hv:∀ ρ w,EV ρ op.operands.toList vs->(execOp ρ ⟨F t,op,ty,ps,af,gd⟩).run P w=.ok (.value (Z (F ⟨w.heap.size,0,O⟩) m m)) (w.alloc (.cells cs.toArray bt)):=by intro ρ w h;simp only[Op.operands,Call.operands,EV,Array.toList_append,List.toList_toArray,List.map_cons,List.map_nil,List.nil_append,List.cons_append] at h;simp[go_sem,h];(first | rfl | exact⟨rfl,rfl⟩ | skip);first | done | fail):Rz P n ds d ops K T (i::pl) pend (Mem C w0 Az) (Mem C w0 A) l:=
 Zz.eff (ι:={b:Nat // w0.heap.size<=b}) (Si:=fun b=>Mem C w0 (blk b.1 cs bt::A)) (li:=fun b=>(t,Z (F ⟨b.1,0,O⟩) m m)::l) ho hg hq
  (fun a w K' ha hd hw hk=>by
   unfold Eo;rw[hv a.eval w (ha.evs _ _ hs).1];exact hk ⟨w.heap.size,hw.1.size⟩ _ _ (hw.alloc cs bt) (hd _)) (fun x w h=>hz w (h.sub (List.sublist_cons_self ..))) (fun x=>h x.1 x.2)
theorem Zz.app {s x:Operand} {tt e sz bytes k m c:Nat} {ad:Addr} {v:Value} {xs news:List Value} {A':Value->List Aj} (hE:El P tt e sz bytes) (hc:∀ w,Mem C w0 A w->∀ j u,news[j]? =F u->w.cell? (ad.add j)=F u) (hnm:k+m<=100000000)
  (h:∀ a c,Rz P n ds d ops K T pl pend (Mem C w0 Az) (Mem C w0 (A' (Z a (k+m) c))) ((t,Z a (k+m) c)::l))
  (ho:Aw ops.toList i=F ⟨F t,.call {callee:=.builtin .append,args:=#[s,x],argTypes:=#[tt,tt]},ty,ps,af,gd⟩:=by rfl) (hs:ev l s=F v:=by rfl) (hx:ev l x=F (Z (F ad) m c):=by rfl)
  (hr:∀ v',Dt (Af e sz v k xs) (Af e sz v' (k+m) (xs++news)) A (A' v'):=by intro v';(repeat (first | exact Dt.hd | apply Dt.tl));first | done | fail) (hl:news.length=m*sz:=by rfl) (h1:news.all Value.oneCell'=true:=by rfl)
  (hp:∀ (y:Option Addr×Nat) w,Mem C w0 (A' (Z y.1 (k+m) y.2)) w->Mem C w0 Az w:=by exact fun y w h=>h.sel) (hg:Cv ops.toList l gd=F true:=by rfl):Rz P n ds d ops K T (i::pl) pend (Mem C w0 Az) (Mem C w0 A) l:=
 Zz.eff (ι:=Option Addr×Nat) (Si:=fun y=>Mem C w0 (A' (Z y.1 (k+m) y.2))) (li:=fun y=>(t,Z y.1 (k+m) y.2)::l) ho hg rfl (fun a w K' ha hd hw hk=>by
  obtain⟨i0,z,hi,hz,hzs,hsz,hby⟩:∃ i0 z,P.info? e=F i0/\i0.zero=F z/\z.cells.size=sz/\i0.size=sz/\i0.bytes=bytes:=by
   have:=hE.info;cases hi:P.info? e with
   | none=>rw[hi] at this;cases this
   | some i0=>
    rw[hi] at this;simp only[Option.map_some,Option.some.injEq,Prod.mk.injEq] at this;obtain⟨h1,h2,h3⟩:=this;cases hz:i0.zero with
    | none=>rw[hz] at h1;cases h1
    | some z=>rw[hz] at h1;simp at h1;exact⟨i0,z,rfl,hz,h1,h2,h3⟩
  obtain⟨G,⟨g1,g2⟩,g3,_⟩:=hw.rep (hr v);have hcs:=hc w hw;have hnews:=hcs;obtain⟨v',w',hrun,k1,k2,_,k4⟩:=run_append_own_at (P:=P) w 0 tt ty e i0 z sz bytes hE.und hi hz hsz hby hzs hE.pos v k xs g1 ad m c news hl hnews (fun u hu=>List.all_eq_true.1 h1 u hu) (by unfold maxLen;omega)
   (Nat.le_trans (Nat.mul_le_mul hnm hE.small) (by decide)) (Nat.zero_le _)
  obtain⟨G2,⟨_,i2⟩,i3,i4⟩:=hw.rep (hr v');obtain⟨a',c',hv'⟩:∃ a' c',v'=Z a' (k+m) c':=by
   rcases k1.2 with ⟨e1,e2⟩ | ⟨g,cap,cur,e1,_⟩
   ·exact⟨O,0,by rw[e1,e2]⟩
   ·exact⟨_,cap,e1⟩
  subst hv';have hm:Mem C w0 (A' (Z a' (k+m) c')) w':=by
   refine i4 (fun b=>(Value.slice a' (k+m) c').ownBlock=F b) w' ⟨k1,fun b hb=>hb⟩ ⟨k2.os,k2.tape,k2.output,k2.size,fun b hb hn=>k2.block b hb (fun e=>hn (i2 b e.symm))⟩ (fun b hb=>⟨?_,?_⟩)
   ·rcases k1.2 with ⟨e1,_⟩ | ⟨g,cap,cur,e1,_,hg,_⟩
    ·rw[e1] at hb;cases hb
    ·rw[e1] at hb;cases hb;exact(Gl hg)
   ·rcases k4 with k4 | k4
    ·exact .inl (i2 b (k4.symm.trans hb))
    ·rw[k4] at hb;cases hb;exact .inr Nr
  unfold Eo;have:(execOp a.eval ⟨F t,.call {callee:=.builtin .append,args:=#[s,x],argTypes:=#[tt,tt]},ty,ps,af,gd⟩).run P w=.ok (.value (Z a' (k+m) c')) w':=by
   simp[execOp,resolve,invoke,builtin,Sem.run_bind,pure,ha.ev hs,ha.ev hx,hrun]
  rw[this];exact hk (a',c') _ _ hm (hd _)) hp (fun y=>h y.1 y.2)
theorem Zz.cf {ι:Type} {v:ι->Value} {X:ι->List Aj} {f:FuncId} {fn:Operand} {fs cs:Array Value} {args:List Operand} {ts:Array TypeId} {vs aa:List Value}
  (hc:∀ w,Mem C w0 A w->Calls P f aa.toArray w fun e w'=>∃ x,e=.returned (v x)/\Fr w w' (X x)) (h:∀ x,Rz P n ds d ops K T pl pend (Mem C w0 Az) (Mem C w0 (X x++A)) ((t,v x)::l)) (hz:∀ w,Mem C w0 A w->Mem C w0 Az w:=by exact fun w h=>h.sel)
  (ho:Aw ops.toList i=F ⟨F t,.call {callee:=.value fn,args:=args.toArray,argTypes:=ts},ty,ps,af,gd⟩:=by rfl) (hf:ev l fn=F (.func (.func f) fs cs):=by rfl) (hs:evs l args=F vs:=by rfl) (he:fs.toList++(vs++cs.toList)=aa:=by rfl) (hr:∀ args w,(callFunc f args).run P w=.ok (.enter f args) w:=by intro args w;simp;first | done | fail)
  (hg:Cv ops.toList l gd=F true:=by rfl):Rz P n ds d ops K T (i::pl) pend (Mem C w0 Az) (Mem C w0 A) l:=
 Zz.eff (Si:=fun x=>Mem C w0 (X x++A)) (li:=fun x=>(t,v x)::l) ho hg rfl (fun a w K' ha hd hw hk=>by
  unfold Eo;rw[E7 ha hf hs hr he];exact(hc w hw).mono (by rintro e w' ⟨x,rfl,hm⟩;exact⟨_,rfl,hk x _ _ (hw.fr hm) (hd _)⟩)) (fun x w h=>hz w (h.sub (List.sublist_append_right ..))) h
end
theorem Wz {Jz J':Prop} (k:J') (h:J'->Jz:=by first | exact Zz.add | exact Zz.sub | exact Zz.p | exact Zz.lb | exact Zz.u):Jz:=h k
end
section
def BT {ι:Type} (P:Program) (f:FuncId) (aa:Array Value) (w:Y) (X:Aj) (Qz:(Nat->Prop)->Prop) (v:ι->Value) (X':ι->Aj):Prop:=
 ∀ Fz:Nat->Prop,X.is Fz w->(∀ b,Fz b->b<w.heap.size)->Qz Fz->Calls P f aa w fun e w'=>∃ x,e=.returned (v x)/\∃ F':Nat->Prop,AI Fz w w'/\(∀ b,F' b->b<w'.heap.size/\(Fz b\/w.heap.size<=b))/\(X' x).is F' w'
section
variable {P:Program} {n:Nat} {ds:List Deferred} {d:Bool} {ops:Array Oper} {K:Act->Y->Prop} {i:Nat} {pl pend pend':List Nat} {l:Env}
 {t:Nat} {ty:TypeId} {ps:String} {af:Array Edge} {gd:Option (Nat×Bool)} {C:Nat->Prop} {w0:Y} {A Z0:List Aj}
theorem R.cq {ι:Type} {v:ι->Value} {X:Aj} {Qz:(Nat->Prop)->Prop} {X':ι->Aj} {f:FuncId} {fn:Operand} {fs cs:Array Value} {args:List Operand} {ts:Array TypeId} {vs aa:List Value}
  (hc:∀ w,Mem C w0 A w->BT P f aa.toArray w X Qz v X') (hq:∀ Fz:Nat->Prop,(∀ b,Fz b->w0.heap.size<=b\/C b)->Qz Fz) (h:∀ x,Rj P n ds d ops K pl pend' (Mem C w0 (X' x::Z0)) ((t,v x)::l)) (hk:Pk X A Z0:=by(repeat (first | exact Pk.hd | apply Pk.tl));first | done | fail)
  (ho:Aw ops.toList i=F ⟨F t,.call {callee:=.value fn,args:=args.toArray,argTypes:=ts},ty,ps,af,gd⟩:=by rfl) (hf:ev l fn=F (.func (.func f) fs cs):=by rfl) (hs:evs l args=F vs:=by rfl) (he:fs.toList++(vs++cs.toList)=aa:=by rfl) (hr:∀ args w,(callFunc f args).run P w=.ok (.enter f args) w:=by intro args w;simp;first | done | fail)
  (hp:Sq d ops i pend pend' (fun x=>Mem C w0 (X' x::Z0)) (Mem C w0 A):=by first | exact .inl ⟨rfl,rfl⟩ | exact .inr (.inl ⟨rfl,rfl⟩)) (hg:Cv ops.toList l gd=F true:=by rfl):Rj P n ds d ops K (i::pl) pend (Mem C w0 A) l:=
 R.cx (A':=fun x=>X' x::Z0) (fun w hw=>by
  obtain⟨Fz,h1,h2,h3⟩:=hw.own hk;exact(hc w hw Fz h1 (fun b hb=>(h2 b hb).1) (hq Fz fun b hb=>(h2 b hb).2)).mono fun e w' ⟨x,he,F',hx,hf,hi⟩=>⟨x,he,h3 _ F' w' hi hx hf⟩) h ho hf hs he hr hp hg
end
section
variable {C:Nat->Prop} {w0 w:Y} {A B Zz:List Aj}
theorem Mem.ownNil (h:Mem C w0 A w) (e:TypeId) (sz:Nat):Mem C w0 (Af e sz (Z O 0 0) 0 []::A) w:=⟨h.1,fun _=>False,⟨⟨by simp,.inl ⟨rfl,rfl⟩⟩,fun b hb=>by cases hb⟩,fun _ e=>e.elim,h.2.mono (fun b hb=>⟨hb,fun e=>e⟩) (fun _ _=>rfl)⟩
theorem E0:Mem C w0 (star A::(B++Zz)) w->Mem C w0 (star (A++B)::Zz) w:=by
 rintro⟨he,Fz,h1,h2,h3⟩;obtain⟨F',k1,k2,k3⟩:=Bm.split h3;refine⟨he,fun b=>Fz b\/F' b,?_,fun b hb=>hb.elim (h2 b) (fun h=>(k2 b h).1),k3.mono (fun b hb=>⟨hb.1.1,fun h=>h.elim hb.1.2 hb.2⟩) (fun _ _=>rfl)⟩;exact Bm.join (A:=A) (Fz:=Fz) h1 (fun b hb=>.inl hb) (k1.mono (fun b hb=>⟨.inr hb,(k2 b hb).2⟩) (fun _ _=>rfl))
end
def WW (ct nt it:TypeId) (c:Nat) (s:St) (q:Nat×Value×List (Value×Value)):List Aj:=
 [blk c [I J 0,q.2.1,.map (F q.1)] ct,K9 Value.string q.1 (AS (Value.int .i64) s.names),Af nt 6 q.2.1 s.nodes.length (AU s.nodes q.2.2),star (E4 it s.nodes q.2.2),pr (q.2.2.length=s.nodes.length/\s.nodes.length<=200)]
def XF (ct nt it:TypeId) (c:Nat) (s:St):Aj:=Hf fun q=>star (WW ct nt it c s q)
section
variable {ct nt it:TypeId} {c:Nat} {s:St} {C:Nat->Prop} {w0 w:Y} {A Z0:List Aj}
theorem I9 (h:Mem C w0 A w) (hk:Pk (XF ct nt it c s) A Z0):∃ q:Nat×Value×List (Value×Value),Mem C w0 (WW ct nt it c s q++Z0) w:=let ⟨q,hq⟩:=(h.pk hk).ex;⟨q,hq.star⟩
theorem GF (q:Nat×Value×List (Value×Value)) (h:Mem C w0 (WW ct nt it c s q++Z0) w):Mem C w0 (XF ct nt it c s::Z0) w:=Mem.toEx (f:=fun q=>star (WW ct nt it c s q)) q (Mem.toStar (B:=WW ct nt it c s q) h)
theorem WG (h:Mem C w0 A w) (hk:XF ct nt it c s∈A):s.nodes.length<=200/\∃ (nb:Nat) (LA:Option Addr) (lc:Nat),Cs w c 0 [I J 0,Z LA s.nodes.length lc,.map (F nb)]/\Mp w Value.string nb (AS (Value.int .i64) s.names):=by
 obtain⟨Fz,⟨q,hq⟩,_⟩:=h.has hk;obtain⟨F1,⟨_,a1⟩,_,F2,⟨_,es,cl,b1,b2⟩,_,F3,⟨⟨c0,c1⟩,_⟩,_,F4,_,_,F5,⟨_,d1⟩,_⟩:=hq;refine⟨d1,q.1,?_⟩;rcases c1 with ⟨e,e0⟩ | ⟨g,cap,cur,e,_⟩
 ·exact⟨O,0,by have:=Cs.of_blk a1;rw[e] at this;rwa [e0],es,cl,b1,b2⟩
 ·exact⟨_,cap,by have:=Cs.of_blk a1;rw[e] at this;exact this,es,cl,b1,b2⟩
end
mutual
theorem Fj (chk:Tr->Int->St->Int):∀ (t:Tr) (deep:Int) (s:St),s.nodes.length<=(Cy chk deep t s).1.nodes.length/\∀ i,i<s.nodes.length->(Cy chk deep t s).1.nodes[i]? =s.nodes[i]?
 | .mk k nm x ks ts,deep,s=>by
  unfold Cy;split
  ·split
   ·exact⟨Nat.le_refl _,fun i _=>rfl⟩
   ·have hl:(s.node k nm x ks).nodes.length=s.nodes.length+1:=by simp[St.node]
    obtain⟨h1,h2,_⟩:=NG chk ts deep s.nodes.length (s.node k nm x ks) (by omega);have key:s.nodes.length<=(EJ chk deep s.nodes.length ts (s.node k nm x ks)).1.nodes.length/\∀ i,i<s.nodes.length->(EJ chk deep s.nodes.length ts (s.node k nm x ks)).1.nodes[i]? =s.nodes[i]? :=
     ⟨by omega,fun i hi=>by rw[h2 i (by omega) (by omega)];exact List.getElem?_append_left hi⟩
    dsimp only
    split
    ·exact key
    ·exact key
  ·exact⟨Nat.le_refl _,fun i _=>rfl⟩
theorem NG (chk:Tr->Int->St->Int):∀ (ts:List Tr) (deep:Int) (a:Nat) (s:St),a<s.nodes.length->s.nodes.length<=(EJ chk deep a ts s).1.nodes.length/\(∀ i,i<s.nodes.length->i≠a->(EJ chk deep a ts s).1.nodes[i]? =s.nodes[i]?)/\True
 | [],deep,a,s,_=>⟨Nat.le_refl _,fun i _ _=>rfl,trivial⟩
 | t::r,deep,a,s,ha=>by
  obtain⟨h1,h2⟩:=Fj chk t (deep+1) s;unfold EJ;dsimp only
  have kl:∀ (s:St) (v:Int),(s.kid a v).nodes.length=s.nodes.length:=fun s v=>by simp[St.kid]
  have kg:∀ (s:St) (v:Int) (i:Nat),i≠a->(s.kid a v).nodes[i]? =s.nodes[i]? :=fun s v i h=>by
   have h:¬a=i:=fun e=>h e.symm;unfold St.kid;rw[List.getElem?_modify];simp[h]
  split
  ·obtain⟨k1,k2,_⟩:=NG chk r deep a ((Cy chk (deep+1) t s).1.kid a (Cy chk (deep+1) t s).2.1) (by rw[kl];omega);rw[kl] at k1 k2;exact⟨by omega,fun i hi hn=>by rw[k2 i (by omega) hn,kg _ _ _ hn,h2 i hi],trivial⟩
  ·exact⟨by rw[kl];exact h1,fun i hi hn=>by rw[kg _ _ _ hn,h2 i hi],trivial⟩
end
end
section
set_option maxRecDepth 100000
def Ov (k:Int) (nm:ByteArray) (x:Sc) (kv tv:Value):List Value:=[I J k,Q nm,I J x.kind,I J x.num,Q x.str,kv,tv]
theorem Ir (b o c:Nat) (bs:List Bool) (w:Y) (h:Cs w b o (bs.map .bool)) (hn:bs.length<=1000):
  Calls Tryz.prog 230 #[Z (F ⟨b,o,O⟩) bs.length c] w fun e w'=>e=.returned (.bool (Uj bs))/\Below w.heap.size w w':=by
 refine V.enter _ Tryz.func230 (Mem.start (C:=Ao) w) ?_
 repeat refine W ?_
 refine R.c (fun w' h'=>GX b o c bs false w' (h'.1.cs h fun e=>e) hn) ?_
 repeat refine W ?_
 refine V.end fun w' h'=>?_;exact⟨by simp[one,Uj],h'.1.below⟩
theorem ZY (x y:Sc) (w:Y):(binOp .eql 36 (Di x) (Di y)).run Tryz.prog w=.ok (.bool (decide (x=y))) w:=by
 have h0:(x.kind==y.kind&&(x.num==y.num&&x.str.toList==y.str.toList))=decide (x=y):=by
  rw[ByteArray.toList_eq,ByteArray.toList_eq,Bool.eq_iff_iff];simp only[Bool.and_eq_true,beq_iff_eq,decide_eq_true_eq]
  constructor
  ·rintro⟨h1,h2,h3⟩;exact IR (by simp[Hh,h1,h2,h3])
  ·rintro rfl;exact⟨rfl,rfl,rfl⟩
 rw[<- h0];obtain⟨k1,n1,s1⟩:=x;obtain⟨k2,n2,s2⟩:=y;unfold Di;rw[run_eql_struct];dsimp only
 cases h1:(k1==k2)<;>cases h2:(n1==n2)<;>cases h3:(s1.toList==s2.toList)<;>go_simp
section
variable {P:Program} {n:Nat} {ds:List Deferred} {d:Bool} {ops:Array Oper} {K:Act->Y->Prop} {i:Nat} {pl pend:List Nat} {S:Y->Prop} {l:Env} {t:Nat} {ty:TypeId} {ps:String} {af:Array Edge} {gd:Option (Nat×Bool)}
theorem R.bin {o:BinOp} {x y:Operand} {tt t2:TypeId} {a b:Array Value} {v:Value} (hE:∀ w,(binOp o tt (.agg a) (.agg b)).run P w=.ok v w) (h:Rj P n ds d ops K pl pend S ((t,v)::l)) (ho:Aw ops.toList i=F ⟨F t,.binOp o tt x y t2,ty,ps,af,gd⟩:=by rfl) (hx:ev l x=F (.agg a):=by rfl) (hy:ev l y=F (.agg b):=by rfl) (hG:P.eqGuardType P.depth tt=false:=by kernel_rfl) (hg:Cv ops.toList l gd=F true:=by rfl):Rj P n ds d ops K (i::pl) pend S l:=
 R.takeP ho hg rfl (by rw[if_pos rfl];intro a' w ha;simp[execOp,ha.ev hx,ha.ev hy,run_eqGuard_agg w o tt x y a b hG,hE,Sem.run_bind,Sem.run,pure]) h
end
theorem Jg (k:Int) (nm:ByteArray) (x:Sc) (kv tv:Value) (w:Y):Calls Tryz.prog 231 #[.agg (Ov k nm x kv tv).toArray] w fun e w'=>e=.returned (.bool (decide (x=A4)))/\Below w.heap.size w w':=by
 refine V.enter _ Tryz.func231 (Mem.start (C:=Ao) w) ?_
 repeat (first | refine W ?_ | refine R.new fun _ _=>?_)
 refine R.bin (ZY x A4) ?_
 repeat refine W ?_
 refine V.end fun w' h'=>?_;exact⟨rfl,h'.1.below⟩
theorem XM (S:Nat->Prop) (rt:Sc->Bool) (k:Int) (nm:ByteArray) (x:Sc) (A:Option Addr) (c:Nat) (ks:List Sc) (tv:Value) (w:Y) (h:Fk w S A ks) (hn:ks.length<=1000000) (hR:∀ y∈ks,A7 139 rt y w):
  Calls Tryz.prog 232 #[.agg (Ov k nm x (Z A ks.length c) tv).toArray] w fun e w'=>e=.returned (.bool (ks.all rt))/\Below w.heap.size w w':=by
 refine V.enter _ Tryz.func232 (Mem.start (C:=Ao) w) ?_
 repeat (first | refine W ?_ | refine R.new fun _ _=>?_)
 refine R.c (fun w' h'=>Gx S A c ks _ (fun y=> !rt y) w' (h.to fun b o v hb hv=>⟨h'.1.cell hv (fun e=>e),hb⟩) (fun y hy=>(OK rt y w (hR y hy)).to h'.1.below) hn (by intro args w;simp)) ?_
 repeat refine W ?_
 refine V.end fun w' h'=>?_;exact⟨by simp[one,List.any_eq_not_all_not],h'.1.below⟩
theorem MQ (a b:Nat):((a:Int)==(b:Int))=decide (a=b):=by rw[Bool.eq_iff_iff];simp;omega
theorem Abe (rt:Sc->Bool) (k:Int) (nm:ByteArray) (x:Sc) (A B:Option Addr) (kl kc tl tc:Nat) (w:Y) (hR:A7 139 rt x w):
  Calls Tryz.prog 198 #[.agg (Ov k nm x (Z A kl kc) (Z B tl tc)).toArray] w fun e w'=>e=.returned (.bool (WQ rt x kl tl))/\Below w.heap.size w w':=by
 refine V.enter _ Tryz.func198 (Mem.start (C:=Ao) w) ?_
 repeat (first | refine W ?_ | refine R.new fun _ _=>?_)
 refine R.c (fun w' h'=>hR w' h'.1.below) ?_
 repeat refine W ?_
 refine R.bs fun b hb=>?_;refine R.c (fun w' h'=>Ir b 0 3 [rt x,(kl:Int)==0,(tl:Int)==0] w' (Cs.of_blk (h'.blk (List.Mem.head _))) (by simp)) ?_
 repeat refine W ?_
 refine V.end fun w' h'=>?_;exact⟨by rw[VJ,show((kl:Int)==0)=decide (kl=0) from MQ kl 0,show((tl:Int)==0)=decide (tl=0) from MQ tl 0];rfl,h'.1.below⟩
theorem Y1 (k:Int) (nm:ByteArray) (x:Sc) (A:Option Addr) (kl kc:Nat) (tv:Value) (w:Y):
  Calls Tryz.prog 199 #[.agg (Ov k nm x (Z A kl kc) tv).toArray] w fun e w'=>e=.returned (.bool (Ae4 x kl))/\Below w.heap.size w w':=by
 refine V.enter _ Tryz.func199 (Mem.start (C:=Ao) w) ?_
 repeat (first | refine W ?_ | refine R.new fun _ _=>?_)
 refine R.c (fun w' h'=>Jg k nm x (Z A kl kc) tv w') ?_
 repeat refine W ?_
 refine R.bs fun b hb=>?_;refine R.c (fun w' h'=>Ir b 0 2 [decide (x=A4),(kl:Int)==0] w' (Cs.of_blk (h'.blk (List.Mem.head _))) (by simp)) ?_
 repeat refine W ?_
 refine V.end fun w' h'=>?_;exact⟨by rw[Aj1,show((kl:Int)==0)=decide (kl=0) from MQ kl 0];rfl,h'.1.below⟩
theorem YQ (S:Nat->Prop) (rt:Sc->Bool) (k:Int) (nm:ByteArray) (x:Sc) (A B:Option Addr) (kc tl tc:Nat) (ks:List Sc) (w:Y) (h:Fk w S A ks) (hn:ks.length<=1000000) (hR:∀ y∈ks,A7 139 rt y w):
  Calls Tryz.prog 200 #[.agg (Ov k nm x (Z A ks.length kc) (Z B tl tc)).toArray] w fun e w'=>e=.returned (.bool (Aee rt x ks tl))/\Below w.heap.size w w':=by
 refine V.enter _ Tryz.func200 (Mem.start (C:=Ao) w) ?_
 repeat (first | refine W ?_ | refine R.new fun _ _=>?_)
 refine R.c (fun w' h'=>Jg k nm x (Z A ks.length kc) (Z B tl tc) w') ?_
 repeat refine W ?_
 refine R.c (fun w' h'=>XM S rt k nm x A kc ks (Z B tl tc) w' (h.to fun b o v hb hv=>⟨h'.1.cell hv (fun e=>e),hb⟩) hn (fun y hy=>(hR y hy).to h'.1.below)) ?_
 repeat refine W ?_
 refine R.bs fun b hb=>?_;refine R.c (fun w' h'=>Ir b 0 3 [decide (x=A4),(ks.length:Int)==(tl:Int),ks.all rt] w' (Cs.of_blk (h'.blk (List.Mem.head _))) (by simp)) ?_
 repeat refine W ?_
 refine V.end fun w' h'=>?_;exact⟨by rw[VJ,MQ];rfl,h'.1.below⟩
theorem Y2 (k:Int) (nm:ByteArray) (x:Sc) (A B:Option Addr) (kl kc tl tc:Nat) (w:Y):
  Calls Tryz.prog 201 #[.agg (Ov k nm x (Z A kl kc) (Z B tl tc)).toArray] w fun e w'=>e=.returned (.bool (Agp nm x kl tl))/\Below w.heap.size w w':=by
 refine V.enter _ Tryz.func201 (Mem.start (C:=Ao) w) ?_
 repeat (first | refine W ?_ | refine R.new fun _ _=>?_)
 refine R.c (fun w' h'=>Jg k nm x (Z A kl kc) (Z B tl tc) w') ?_
 repeat refine W ?_
 refine R.bs fun b hb=>?_;refine R.c (fun w' h'=>Ir b 0 4 [decide (x=A4),(kl:Int)==0,(tl:Int)==0,!nm.toList.isEmpty] w' (Cs.of_blk (h'.blk (List.Mem.head _))) (by simp)) ?_
 repeat refine W ?_
 refine V.end fun w' h'=>?_;exact⟨by rw[Afx,show((kl:Int)==0)=decide (kl=0) from MQ kl 0,show((tl:Int)==0)=decide (tl=0) from MQ tl 0];rfl,h'.1.below⟩
end
section
set_option maxHeartbeats 4000000
set_option maxRecDepth 100000
theorem PK (S:Nat->Prop) (rt:Sc->Bool) (nb:Bool) (k:Int) (nm:ByteArray) (x:Sc) (A B:Option Addr) (kc tl tc:Nat) (ks:List Sc) (w:Y) (h:Fk w S A ks) (hn:ks.length<=1000000) (hx:A7 139 rt x w) (hR:∀ y∈ks,A7 139 rt y w)
  (hN:∀ w1,Below w.heap.size w w1->Calls Tryz.prog 17 #[Q nm] w1 fun e w'=>e=.returned (.bool nb)/\Below w1.heap.size w1 w'):
  Calls Tryz.prog 156 #[.agg (Ov k nm x (Z A ks.length kc) (Z B tl tc)).toArray] w fun e w'=>e=.returned (.bool (CH rt nb k nm x ks tl))/\Below w.heap.size w w':=by
 have hc:k=0\/k=1\/k=2\/k=3\/k<0\/4<=k:=by omega
 refine V.enter _ Tryz.func156 (Mem.start (C:=Ao) w) ?_
 repeat (first | refine W ?_ | refine R.new fun _ _=>?_)
 rcases hc with rfl | rfl | rfl | rfl | hk | hk;refine R.yes 9 (p:=(0:Int)<=0) (by decide) ?_
 repeat refine W ?_
 refine R.c (fun w' h'=>Abe rt 0 nm x A B ks.length kc tl tc w' (hx.to h'.1.below)) ?_;generalize he:WQ rt x ks.length tl=q
 rotate_left
 refine R.yes 9 (p:=(0:Int)<=1) (by decide) ?_
 repeat refine W ?_
 refine R.c (fun w' h'=>Y1 1 nm x A ks.length kc (Z B tl tc) w') ?_;generalize he:Ae4 x ks.length=q
 rotate_left
 refine R.yes 9 (p:=(0:Int)<=2) (by decide) ?_
 repeat refine W ?_
 refine R.c (fun w' h'=>YQ S rt 2 nm x A B kc tl tc ks w' (h.to fun b o v hb hv=>⟨h'.1.cell hv (fun e=>e),hb⟩) hn (fun y hy=>(hR y hy).to h'.1.below)) ?_;generalize he:Aee rt x ks tl=q
 rotate_left
 refine R.yes 9 (p:=(0:Int)<=3) (by decide) ?_
 repeat refine W ?_
 refine R.c (fun w' h'=>Y2 3 nm x A B ks.length kc tl tc w') ?_;generalize he:Agp nm x ks.length tl=q
 rotate_left
 ·refine R.no 9 (p:=0<=k) (by omega) ?_
  repeat refine W ?_
  refine V.end fun w' h'=>?_;exact⟨by simp[one,CH,LD,show k≠0 by omega,show k≠1 by omega,show k≠2 by omega,show k≠3 by omega],h'.1.below⟩
 ·refine R.yes 9 (p:=0<=k) (by omega) ?_
  repeat refine W ?_
  refine R.no 15 (p:=k<4) (by omega) ?_
  repeat refine W ?_
  refine V.end fun w' h'=>?_;exact⟨by simp[one,CH,LD,show k≠0 by omega,show k≠1 by omega,show k≠2 by omega,show k≠3 by omega],h'.1.below⟩
 all_goals
  repeat refine W ?_
  by_cases hb:q=true
  ·refine R.is 24 hb ?_
   repeat refine W ?_
   by_cases hm:nm.toList.isEmpty=true
   ·refine R.is 29 hm ?_
    repeat refine W ?_
    refine V.end fun w' h'=>?_;exact⟨by simp[one,CH,LD,he,hb,hm],h'.1.below⟩
   ·have hm:nm.toList.isEmpty=false:=by simpa using hm
    refine R.is 29 hm ?_
    repeat refine W ?_
    refine R.c (fun w' h'=>hN w' h'.1.below) ?_
    repeat refine W ?_
    refine V.end fun w' h'=>?_;exact⟨by simp only[CH,LD];rw[hm];simp[one,he,hb],h'.1.below⟩
  ·have hb:q=false:=by simpa using hb
   refine R.is 24 hb ?_
   repeat refine W ?_
   refine V.end fun w' h'=>?_;exact⟨by simp[one,CH,LD,he,hb],h'.1.below⟩
end
section
set_option maxHeartbeats 4000000
set_option maxRecDepth 100000
theorem Aag (x y:ByteArray):(x==y)=decide (x=y):=by
 cases x with | mk a=>cases y with | mk b=>
 show(a==b)=_;rw[Bool.eq_iff_iff];simp
theorem Ahz:Hs Tryz.prog 9 Value.string:=Hs.plain (dk:=.string) (by kernel_rfl) rfl (fun x y=>by show F (x==y)=_;rw[Aag]) (fun x=>by show(x==x)=true;rw[Aag];simp)
def cErr (e:Int):Value:=if e=0 then .nilIface else .iface 229 (.agg #[I J e])
theorem SW (c nb:Nat) (root:Int) (LA:Option Addr) (ln lc:Nat) (names:List (ByteArray×Value)) (sb dup:Bool) (k deep:Int) (nm:ByteArray) (x:Sc) (KA:Option Addr) (kl kc:Nat) (tv:Value) (w:Y)
  (hc:Cs w c 0 [I J root,Z LA ln lc,.map (F nb)]) (hM:Mp w Value.string nb names)
  (hS:∀ w1,Below w.heap.size w w1->Calls Tryz.prog 156 #[.agg (Ov k nm x (Z KA kl kc) tv).toArray] w1 fun e w'=>e=.returned (.bool sb)/\Below w1.heap.size w1 w')
  (hD:∀ w1,Below w.heap.size w w1->Calls Tryz.prog 157 #[Z KA kl kc] w1 fun e w'=>e=.returned (.bool dup)/\Below w1.heap.size w1 w'):
  Calls Tryz.prog 113 #[.pointer (F ⟨c,0,O⟩),.agg (Ov k nm x (Z KA kl kc) tv).toArray,I J deep] w fun e w'=>e=.returned (cErr (IS sb dup k deep (A3 nm names).isSome ln))/\Below w.heap.size w w':=by
 refine V.enter _ Tryz.func113 (Mem.start (C:=Ao) w) ?_
 repeat (first | refine W ?_ | refine R.new fun _ _=>?_)
 refine R.lo 2 hc ?_
 repeat refine W ?_
 refine R.looko (e:=3) nm Ahz hM ?_;refine R.re 17 (Lx _ _) ?_
 repeat refine W ?_
 refine V.ifp (fun h1=>?_) (fun h1=>?_)
 ·repeat refine W ?_
  refine V.end fun w' h'=>?_;exact⟨by unfold IS;rw[if_pos (by omega)];rfl,h'.1.below⟩
 ·repeat refine W ?_
  refine R.c (fun w' h'=>hS w' h'.1.below) ?_
  repeat refine W ?_
  refine V.if (fun h2=>?_) (fun h2=>?_)
  ·repeat refine W ?_
   refine V.end fun w' h'=>?_;exact⟨by unfold IS;rw[if_neg (by omega),if_pos (by simpa using h2)];rfl,h'.1.below⟩
  ·repeat refine W ?_
   refine R.c (fun w' h'=>hD w' h'.1.below) ?_
   repeat refine W ?_
   refine V.if (fun h3=>?_) (fun h3=>?_)
   ·repeat refine W ?_
    refine V.end fun w' h'=>?_;exact⟨by unfold IS;rw[if_neg (by omega),if_neg (by simpa using h2),if_pos h3];rfl,h'.1.below⟩
   ·repeat refine W ?_
    have e0:∀ r:Int,(if 24<deep then (73:Int) else if sb=false then 93 else if dup=true then 101 else r)=r:=fun r=>by rw[if_neg (by omega),if_neg (by simpa using h2),if_neg (by simpa using h3)]
    by_cases h4:k=3
    ·refine R.is 43 (c:=true) ?_ ?_
     ·simp[h4]
     repeat refine W ?_
     refine V.if (fun h5=>?_) (fun h5=>?_)
     ·repeat refine W ?_
      refine V.end fun w' h'=>?_;exact⟨by unfold IS;rw[e0,if_pos ⟨h4,by simpa using h5⟩];rfl,h'.1.below⟩
     ·repeat refine W ?_
      refine R.is 54 (c:=false) ?_ ?_
      ·simp[h4]
      repeat refine W ?_
      refine V.end fun w' h'=>?_;exact⟨by unfold IS;rw[e0,if_neg (fun h=>by have h6:=h.2;cases hm:A3 nm names with | none=>rw[hm] at h5;cases h5 | some v=>rw[hm] at h6;cases h6),if_neg (fun h=>h.1 h4)];rfl,h'.1.below⟩
    ·refine R.is 43 (c:=false) ?_ ?_
     ·simp[h4]
     repeat refine W ?_
     refine R.is 54 (c:=true) ?_ ?_
     ·simp[h4]
     repeat refine W ?_
     refine R.lo 1 hc ?_
     repeat refine W ?_
     refine V.if (fun h5=>?_) (fun h5=>?_)
     ·repeat refine W ?_
      refine V.end fun w' h'=>?_;exact⟨by unfold IS;rw[e0,if_neg (fun h=>h4 h.1),if_pos ⟨h4,by simp at h5;omega⟩];rfl,h'.1.below⟩
     ·repeat refine W ?_
      refine V.end fun w' h'=>?_;exact⟨by unfold IS;rw[e0,if_neg (fun h=>h4 h.1),if_neg (fun h=>by simp at h5;omega)];rfl,h'.1.below⟩
end
section
set_option maxRecDepth 100000
theorem elS:El Tryz.prog 37 36 3 32:=⟨by kernel_rfl,by kernel_rfl,by decide,by decide⟩
theorem RQ (S:Nat->Prop) (A:Option Addr) (c:Nat) (ks:List Sc) (w:Y) (h:Fk w S A ks) (hn:ks.length<=1000000):
  Calls Tryz.prog 114 #[Z A ks.length c] w fun e w'=>∃ v,e=.returned v/\Fr w w' [K4 v ks]:=by
 cases A with
 | none=>
  have:ks=[]:=by
   cases ks with
   | nil=>rfl
   | cons x r=>obtain⟨b,o,e,_⟩:=h 0 x rfl;cases e
  subst this;refine V.enter _ Tryz.func114 (Mem.start (C:=Ao) w) ?_
  repeat refine W ?_
  refine V.end fun w' h'=>?_;exact⟨_,rfl,h'.1.below,fun _=>False,⟨O,0,rfl,fun j x hj=>by cases hj⟩,fun _ e=>e.elim,trivial⟩
 | some ad=>
  have hcell:∀ w',AI Ao w w'->∀ j u,(ks.flatMap DO)[j]? =F u->w'.cell? (ad.add j)=F u:=fun w' hx j u hj=>by
   obtain⟨x,h1,h2⟩:=Pd hj;obtain⟨b,o,e,_,hc⟩:=h _ x h1;cases e
   exact(hx.cs (h.cs) (fun e=>e)).add j u hj
  refine V.enter _ Tryz.func114 (Mem.start (C:=Ao) w) ?_
  repeat refine W ?_
  refine R.bo (m:=0) (sz:=3) (cs:=[]) rfl (by omega) fun b hb=>?_
  repeat refine W ?_
  refine R.app elS (k:=0) (xs:=[]) (news:=ks.flatMap DO) (fun w h=>hcell w h.1) (by omega) (fun a c=>?_) (hl:=Aef ks) (h1:=Acn ks)
  repeat refine W ?_
  refine V.end fun w' h'=>?_;rw[Nat.zero_add,List.nil_append] at h';exact⟨_,rfl,h'.1.below,h'.to_fr.2.as fun Fz w=>Af.ks⟩
end
section
set_option maxHeartbeats 4000000
set_option maxRecDepth 100000
theorem elI:El Tryz.prog 38 3 1 8:=⟨by kernel_rfl,by kernel_rfl,by decide,by decide⟩
theorem elN:El Tryz.prog 24 40 6 88:=⟨by kernel_rfl,by kernel_rfl,by decide,by decide⟩
abbrev R9 (c:Nat) (s:St):Aj:=XF 162 40 3 c s
def FG (wB:Y) (Fz:Nat->Prop):Prop:=∀ b,Fz b->wB.heap.size<=b
def Abl (wB:Y) (rt:Sc->Bool) (nb:ByteArray->Bool) (t:Tr):Prop:=
 ∀ (deep:Int) (s:St) (c:Nat) (w:Y) (vs:List Value),Cm wB (fun b=>b<wB.heap.size) t vs->Below wB.heap.size wB w-> -1000<=deep->deep<=1000→
  BT Tryz.prog 74 #[.pointer (F ⟨c,0,O⟩),.agg vs.toArray,I J deep] w (R9 c s) (FG wB) (fun _:Unit=>.tuple #[I J (Cy (BU rt nb) deep t s).2.1,cErr (Cy (BU rt nb) deep t s).2.2]) (fun _=>R9 c (Cy (BU rt nb) deep t s).1)
def MA (c b3 b5 b9 a:Nat) (deep:Int) (s:St):List Aj:=[R9 c s,blk b3 [.pointer (F ⟨c,0,O⟩)] 159,blk b5 [I J deep] 3,blk b9 [I J a] 3]
theorem FG.of {wB w:Y} {Fz:Nat->Prop} (hB:Below wB.heap.size wB w) (hF:FG wB Fz) (G:Nat->Prop) (h:∀ b,G b->w.heap.size<=b\/Fz b):FG wB G:=fun b hb=>(h b hb).elim (fun h=>Nat.le_trans hB.size h) (hF b)
theorem AI.belowB {wB w w':Y} {Fz:Nat->Prop} (hB:Below wB.heap.size wB w) (hF:FG wB Fz) (h:AI Fz w w'):Below wB.heap.size wB w':=⟨h.os.trans hB.os,h.tape.trans hB.tape,h.output.trans hB.output,Nat.le_trans hB.size h.size,fun k hk=>(h.block k (Nat.lt_of_lt_of_le hk hB.size) (fun e=>by have:=hF k e;omega)).trans (hB.block k hk)⟩
theorem LW (wB:Y) (rt:Sc->Bool) (nb:ByteArray->Bool) (t:Tr) (hL:Abl wB rt nb t) (deep:Int) (s:St) (c b3 b5 b9 a i:Nat) (w:Y) (vs:List Value) (hT:Cm wB (fun b=>b<wB.heap.size) t vs) (hB:Below wB.heap.size wB w) (hd: -1000<=deep) (hd2:deep<=999)
  (ha:(s.nodes[a]?).map (·.kids.length)=F i) (hi:i<1000000):
  BT Tryz.prog 115 #[.agg vs.toArray,.pointer (F ⟨b3,0,O⟩),.pointer (F ⟨b5,0,O⟩),.pointer (F ⟨b9,0,O⟩)] w (star (MA c b3 b5 b9 a deep s)) (FG wB) (fun _:Unit=>cErr (Cy (BU rt nb) (deep+1) t s).2.2)
   (fun _=>star (MA c b3 b5 b9 a deep ((Cy (BU rt nb) (deep+1) t s).1.kid a (Cy (BU rt nb) (deep+1) t s).2.1))):=by
 intro Fz hX hF hQ;obtain⟨r,hr⟩:∃ r,Cy (BU rt nb) (deep+1) t s=r:=⟨_,rfl⟩
 have hk:=Fj (BU rt nb) t (deep+1) s;have hL:=hL (deep+1) s c;rw[hr] at hk hL |-;obtain⟨x,hx,hxi⟩:=Option.map_eq_some_iff.1 ha;have halt:a<s.nodes.length:=(List.getElem?_eq_some_iff.1 hx).1;have hxa:r.1.nodes[a]? =F x:=by rw[hk.2 a halt];exact hx
 have hvs7:∃ v0 v1 v2 v3 v4 v5 v6,vs=[v0,v1,v2,v3,v4,v5,v6]:=by
  cases t with
  | mk=>unfold Cm at hT;obtain⟨KA,kc,A',c',rfl,_⟩:=hT;exact⟨_,_,_,_,_,_,_,rfl⟩
 obtain⟨v0,v1,v2,v3,v4,v5,v6,rfl⟩:=hvs7;refine V.enter _ Tryz.func115 (Mem.startX hX hF) ?_;refine V.star (B:=MA c b3 b5 b9 a deep s) ?_;show V _ _ _ _ _ _ (Mem Fz w [R9 c s,blk b3 [.pointer (F ⟨c,0,O⟩)] 159,blk b5 [I J deep] 3,blk b9 [I J a] 3]) _;refine W ?_;refine R.new fun b4 _=>?_
 repeat refine W ?_
 refine R.cq (fun w' h'=>hL w' [v0,v1,v2,v3,v4,v5,v6] hT (AI.belowB hB hQ h'.1) (by omega) (by omega)) (fun G hG=>FG.of hB hQ G hG) (fun _=>?_);iterate 6 refine W ?_
 refine V.any (fun w' h'=>I9 h' Pk.hd) (fun q=>?_);obtain⟨nb2,L,vs2⟩:=q;show V _ _ _ _ _ _ (Mem Fz w [blk c [I J 0,L,.map (F nb2)] 162,K9 Value.string nb2 (AS (Value.int .i64) r.1.names),Af 40 6 L r.1.nodes.length (AU r.1.nodes vs2),star (E4 3 r.1.nodes vs2),pr (vs2.length=r.1.nodes.length/\r.1.nodes.length<=200),blk b4 [v0,v1,v2,v3,v4,v5,v6] 53,blk b3 [.pointer (F ⟨c,0,O⟩)] 159,blk b5 [I J deep] 3,blk b9 [I J a] 3]) _;refine V.prop (p:=vs2.length=r.1.nodes.length/\r.1.nodes.length<=200) fun hp=>?_;have har:a<r.1.nodes.length:=by omega
 refine V.know (p:=∃ g lc,L=Z (F ⟨g,0,O⟩) r.1.nodes.length lc) (fun w' h'=>(AL h' (List.Mem.tail _ (List.Mem.tail _ (List.Mem.head _)))).resolve_left (fun e=>by omega)) fun hL2=>?_;obtain⟨g,lc,rfl⟩:=hL2;obtain⟨p0,hp0⟩:∃ p0,vs2[a]? =F p0:=⟨_,List.getElem?_eq_getElem (by omega)⟩
 obtain⟨A1,A2,e1,e2⟩:=UV (it:=3) r.1.nodes vs2 a x p0 hp.1 hxa hp0;rw[e1];refine V.pre (S':=Mem Fz w [Af 3 1 p0.2 x.kids.length (x.kids.map (I J)),star (A1++A2),blk c [I J 0,Z (F ⟨g,0,O⟩) r.1.nodes.length lc,.map (F nb2)] 162,K9 Value.string nb2 (AS (Value.int .i64) r.1.names),Af 40 6 (Z (F ⟨g,0,O⟩) r.1.nodes.length lc) r.1.nodes.length (AU r.1.nodes vs2),blk b3 [.pointer (F ⟨c,0,O⟩)] 159,blk b5 [I J deep] 3,blk b9 [I J a] 3]) ?_ (fun w' h'=>(Q6.1 (h'.pk (Pk.tl (Pk.tl (Pk.tl Pk.hd))))).sel);refine V.know (p:=∃ ia ic,p0.2=Z ia x.kids.length ic) (fun w' h'=>(AL h' (List.Mem.head _)).elim (fun⟨e,e0⟩=>⟨O,0,by rw[e,e0]⟩) (fun⟨g,c,e⟩=>⟨_,c,e⟩)) fun hpi=>?_;obtain⟨ia,ic,hpi⟩:=hpi;rw[hpi];refine W ?_;refine Zz.on (Mem Fz w [blk c [I J 0,Z (F ⟨g,0,O⟩) r.1.nodes.length lc,.map (F nb2)] 162,Af 40 6 (Z (F ⟨g,0,O⟩) r.1.nodes.length lc) r.1.nodes.length (AU r.1.nodes vs2),blk b3 [.pointer (F ⟨c,0,O⟩)] 159,blk b9 [I J a] 3]) ?_
 repeat refine Wz ?_
 refine Zz.ix har ?_
 repeat refine Wz ?_
 have hdrop:(AU r.1.nodes vs2).drop (a*6+5)=p0.2::AU (r.1.nodes.drop (a+1)) (vs2.drop (a+1)):=by
  rw[<- List.drop_drop,IQ r.1.nodes vs2 a x p0 hp.1 hxa hp0];rfl
 refine Zz.lw (v:=Z ia x.kids.length ic) ?_ ?_
 ·rw[hdrop,hpi];rfl
 repeat refine Wz ?_
 refine Zz.bs fun bn _=>?_;refine Zz.app elI (k:=x.kids.length) (m:=1) (xs:=x.kids.map (I J)) (news:=[I J r.2.1]) (fun w' h'=>(Cs.of_blk (h'.blk (List.Mem.head _))).add) (by omega) (fun ia2 ic2=>?_);refine Zz.off (fun w' h'=>h'.sel) ?_;refine R.ix har ?_
 repeat refine W ?_
 refine R.sw (Qw r.1.nodes vs2 a x p0 (Z ia2 (x.kids.length+1) ic2) r.2.1 hp.1 hxa hp0) ?_ (hp:=.inr (.inl ⟨rfl,by kernel_rfl⟩))
 repeat refine W ?_
 refine V.end fun w' h'=>?_;refine⟨(),rfl,Mem.toW ?_⟩;have hfin:Mem Fz w [Af 3 1 (Z ia2 (x.kids.length+1) ic2) (x.kids.length+1) ((x.kids++[r.2.1]).map (I J)),star (A1++A2),blk c [I J 0,Z (F ⟨g,0,O⟩) r.1.nodes.length lc,.map (F nb2)] 162,K9 Value.string nb2 (AS (Value.int .i64) r.1.names),Af 40 6 (Z (F ⟨g,0,O⟩) r.1.nodes.length lc) r.1.nodes.length (AU (r.1.nodes.modify a fun n=>{n with kids:=n.kids++[r.2.1]}) (vs2.set a (p0.1,Z ia2 (x.kids.length+1) ic2))),blk b3 [.pointer (F ⟨c,0,O⟩)] 159,blk b5 [I J deep] 3,blk b9 [I J a] 3] w':=by
  rw[List.map_append];exact h'.sel
 have h2:=(Q6.2 hfin.sel:Mem Fz w (star (A1++Af 3 1 (Z ia2 (x.kids.length+1) ic2) (x.kids.length+1) ((x.kids++[r.2.1]).map (I J))::A2)::[blk c [I J 0,Z (F ⟨g,0,O⟩) r.1.nodes.length lc,.map (F nb2)] 162,K9 Value.string nb2 (AS (Value.int .i64) r.1.names),Af 40 6 (Z (F ⟨g,0,O⟩) r.1.nodes.length lc) r.1.nodes.length (AU (r.1.nodes.modify a fun n=>{n with kids:=n.kids++[r.2.1]}) (vs2.set a (p0.1,Z ia2 (x.kids.length+1) ic2))),blk b3 [.pointer (F ⟨c,0,O⟩)] 159,blk b5 [I J deep] 3,blk b9 [I J a] 3]) w')
 rw[<- e2] at h2;have hml:(r.1.nodes.modify a fun n=>{n with kids:=n.kids++[r.2.1]}).length=r.1.nodes.length:=by simp
 have h3:=h2.pr (p:=(vs2.set a (p0.1,Z ia2 (x.kids.length+1) ic2)).length=(r.1.kid a r.2.1).nodes.length/\(r.1.kid a r.2.1).nodes.length<=200) ⟨by rw[List.length_set];unfold St.kid;rw[hml];exact hp.1,by unfold St.kid;rw[hml];exact hp.2⟩;have h4:=GF (ct:=162) (nt:=40) (it:=3) (c:=c) (s:=r.1.kid a r.2.1) (Z0:=[blk b3 [.pointer (F ⟨c,0,O⟩)] 159,blk b5 [I J deep] 3,blk b9 [I J a] 3]) (nb2,Z (F ⟨g,0,O⟩) r.1.nodes.length lc,vs2.set a (p0.1,Z ia2 (x.kids.length+1) ic2)) (by
  show Mem Fz w [blk c _ _,K9 Value.string nb2 _,Af _ 6 _ (r.1.nodes.modify a _).length _,star _,pr _,_,_,_] w';rw[hml];exact h3.sel)
 exact Mem.toStar (B:=MA c b3 b5 b9 a deep (r.1.kid a r.2.1)) (A:=[]) h4.sel
end
section
structure BX where
 kind:Int
 str:List UInt8
 at_:Int
deriving DecidableEq
def CY (t:BX):List Value:=[I J t.kind,Q ⟨t.str.toArray⟩,I J t.at_]
end
end Go.Proofs.YtdpppepmkeinaaaGreatDoor
