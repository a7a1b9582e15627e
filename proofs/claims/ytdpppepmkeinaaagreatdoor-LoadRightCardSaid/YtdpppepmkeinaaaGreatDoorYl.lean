/- What is proved: a part of the walk of the program and of its plain laws; no condition beside those that each theorem names. -/
import Derived.Test.YtdpppepmkeinaaaGreatDoorYk
import Derived.Test.YtdpppepmkeinaaaGreatDoorYg
import Derived.Test.YtdpppepmkeinaaaGreatDoorYi
import Derived.Test.YtdpppepmkeinaaaGreatDoorYa
import Derived.Test.YtdpppepmkeinaaaGreatDoorProg
namespace Go.Proofs.YtdpppepmkeinaaaGreatDoor
open Go Go.RowKit Go.Lib
open Go.Value renaming int->I,string->Q,slice->Z
open Go.IntKind renaming i64->J
open Option renaming none->O,some->F
open _root_.Go renaming World->Y
set_option linter.unusedSimpArgs false
set_option linter.unusedVariables false
set_option linter.unusedSectionVars false
section
section
variable {C:Nat->Prop} {w0 w:Y} {A B:List Aj} {β:Type} {f:β->Aj}
theorem Mem.ex (h:Mem C w0 (Hf f::A) w):∃ x,Mem C w0 (f x::A) w:=let ⟨Fz,⟨x,hx⟩,h2,h3⟩:=h.2;⟨x,h.1,Fz,hx,h2,h3⟩
theorem Mem.toEx (x:β) (h:Mem C w0 (f x::A) w):Mem C w0 (Hf f::A) w:=let ⟨Fz,hx,h2,h3⟩:=h.2;⟨h.1,Fz,⟨x,hx⟩,h2,h3⟩
theorem Mem.star (h:Mem C w0 (Go.Proofs.YtdpppepmkeinaaaGreatDoor.star B::A) w):Mem C w0 (B++A) w:=let ⟨Fz,h1,h2,h3⟩:=h.2;⟨h.1,Bm.join h1 h2 h3⟩
theorem Mem.toStar (h:Mem C w0 (B++A) w):Mem C w0 (Go.Proofs.YtdpppepmkeinaaaGreatDoor.star B::A) w:=⟨h.1,Bm.split h.2⟩
end
section
variable {P:Program} {Fz:Fence} {Qr:Exit->Act->Y->Prop} {n:Nat} {ds:List Deferred} {k:List Je} {l:Env} {C:Nat->Prop} {w0:Y} {A B:List Aj} {β:Type} {f:β->Aj}
theorem V.ex (h:∀ x,V P Fz Qr n ds k (Mem C w0 (f x::A)) l):V P Fz Qr n ds k (Mem C w0 (Hf f::A)) l:=fun a w ha hw=>let ⟨x,hx⟩:=hw.ex;h x a w ha hx
theorem V.star (h:V P Fz Qr n ds k (Mem C w0 (B++A)) l):V P Fz Qr n ds k (Mem C w0 (Go.Proofs.YtdpppepmkeinaaaGreatDoor.star B::A)) l:=fun a w ha hw=>h a w ha hw.star
end
end
section
section
variable {C:Nat->Prop} {w0 w:Y} {A Z0:List Aj} {X:Aj}
theorem Mem.own (h:Mem C w0 A w) (hk:Pk X A Z0):∃ Fz:Nat->Prop,X.is Fz w/\(∀ b,Fz b->b<w.heap.size/\(w0.heap.size<=b\/C b))∧
  ∀ (X':Aj) (F':Nat->Prop) (w':Y),X'.is F' w'->AI Fz w w'->(∀ b,F' b->b<w'.heap.size/\(Fz b\/w.heap.size<=b))->Mem C w0 (X'::Z0) w':=by
 obtain⟨he,Fz,h1,h2,h3⟩:=h.pk hk;refine⟨Fz,h1,h2,fun X' F' w' k1 k2 k3=>⟨he.trans k2 (fun x hx hf=>?_),F',k1,fun b hb=>⟨(k3 b hb).1,(k3 b hb).2.elim (fun h=>(h2 b h).2) (fun h=>.inl (Nat.le_trans he.size h))⟩,
  h3.mono (fun b hb=>⟨⟨Nat.lt_of_lt_of_le hb.1.1 k2.size,hb.1.2⟩,fun hf=>(k3 b hf).2.elim hb.2 (fun h=>by have:=hb.1.1;omega)⟩) (fun b hb=>k2.block b hb.1.1 hb.2)⟩⟩
 rcases(h2 x hf).2 with h | h
 ·omega
 ·exact h
def B9 {ι:Type} (P:Program) (f:FuncId) (aq:Array Value) (w:Y) (X:Aj) (v:ι->Value) (X':ι->Aj):Prop:=
 ∀ Fz:Nat->Prop,X.is Fz w->(∀ b,Fz b->b<w.heap.size)->Calls P f aq w fun e w'=>∃ x,e=.returned (v x)/\∃ F':Nat->Prop,AI Fz w w'/\(∀ b,F' b->b<w'.heap.size/\(Fz b\/w.heap.size<=b))/\(X' x).is F' w'
theorem Mem.startX {Fz:Nat->Prop} (hX:X.is Fz w) (hF:∀ b,Fz b->b<w.heap.size):Mem Fz w [X] w:=⟨AI.refl _ _,Fz,hX,fun b hb=>⟨hF b hb,.inr hb⟩,trivial⟩
theorem Mem.toW {Fz:Nat->Prop} {w':Y} {X':Aj} (h:Mem Fz w [X'] w'):∃ F':Nat->Prop,AI Fz w w'/\(∀ b,F' b->b<w'.heap.size/\(Fz b\/w.heap.size<=b))/\X'.is F' w':=
 let ⟨he,F',h1,h2,_⟩:=h;⟨F',he,fun b hb=>⟨(h2 b hb).1,(h2 b hb).2.symm⟩,h1⟩
end
section
variable {P:Program} {Fz:Fence} {Qr:Exit->Act->Y->Prop} {n:Nat} {ds:List Deferred} {k:List Je} {d:Bool} {ops:Array Oper} {K:Act->Y->Prop} {i:Nat} {pl pend pend':List Nat} {l l':Env}
 {t:Nat} {ty:TypeId} {ps:String} {af:Array Edge} {gd:Option (Nat×Bool)} {C:Nat->Prop} {w0:Y} {A A' Z0:List Aj} {S:Y->Prop}
theorem V.know {p:Prop} (hp:∀ w,S w->p) (h:p->V P Fz Qr n ds k S l):V P Fz Qr n ds k S l:=fun a w ha hw=>h (hp w hw) a w ha hw
theorem R.know {p:Prop} (hp:∀ w,S w->p) (h:p->Rj P n ds d ops K pl pend S l):Rj P n ds d ops K pl pend S l:=by
 intro hok;cases d with
 | false=>exact fun a w ha hw=>h (hp w hw) hok a w ha hw
 | true=>exact fun Rs hRs a w ha hw=>h (hp w hw) hok Rs hRs a w ha hw
theorem R.cw {ι:Type} {v:ι->Value} {X:Aj} {X':ι->Aj} {f:FuncId} {fn:Operand} {fs cs:Array Value} {args:List Operand} {ts:Array TypeId} {vs aq:List Value}
  (hc:∀ w,Mem C w0 A w->B9 P f aq.toArray w X v X') (h:∀ x,Rj P n ds d ops K pl pend' (Mem C w0 (X' x::Z0)) ((t,v x)::l)) (hk:Pk X A Z0:=by(repeat (first | exact Pk.hd | apply Pk.tl));first | done | fail)
  (ho:Aw ops.toList i=F ⟨F t,.call {callee:=.value fn,args:=args.toArray,argTypes:=ts},ty,ps,af,gd⟩:=by rfl) (hf:ev l fn=F (.func (.func f) fs cs):=by rfl) (hs:evs l args=F vs:=by rfl) (he:fs.toList++(vs++cs.toList)=aq:=by rfl) (hr:∀ args w,(callFunc f args).run P w=.ok (.enter f args) w:=by intro args w;simp;first | done | fail)
  (hp:Sq d ops i pend pend' (fun x=>Mem C w0 (X' x::Z0)) (Mem C w0 A):=by first | exact .inl ⟨rfl,rfl⟩ | exact .inr (.inl ⟨rfl,rfl⟩)) (hg:Cv ops.toList l gd=F true:=by rfl):Rj P n ds d ops K (i::pl) pend (Mem C w0 A) l:=
 R.cx (A':=fun x=>X' x::Z0) (fun w hw=>by
  obtain⟨Fz,h1,h2,h3⟩:=hw.own hk;exact(hc w hw Fz h1 (fun b hb=>(h2 b hb).1)).mono fun e w' ⟨x,he,F',hx,hf,hi⟩=>⟨x,he,h3 _ F' w' hi hx hf⟩) h ho hf hs he hr hp hg
theorem Af.cs {e:TypeId} {sz m c b:Nat} {xs:List Value} {Fz:Nat->Prop} {w:Y} (h:(Af e sz (Z (F ⟨b,0,O⟩) m c) m xs).is Fz w):Cs w b 0 xs:=fun j u hj=>by
 have:=World.ownsRow.cells h.1 (g:=b) rfl j u hj;have hadd:(⟨b,0,O⟩:Addr).add j=⟨b,0+j,O⟩:=by unfold Addr.add;split<;>simp_all
 rwa [hadd] at this
theorem AL {e:TypeId} {sz m:Nat} {v:Value} {xs:List Value} {w:Y} (h:Mem C w0 A w) (hm:Af e sz v m xs∈A):(v=Z O 0 0/\m=0)\/∃ g c,v=Z (F ⟨g,0,O⟩) m c:=by
 obtain⟨Fz,⟨h1,_⟩,_⟩:=h.has hm;rcases h1.2 with h | ⟨g,cap,cur,hv,_⟩
 ·exact .inl h
 ·exact .inr ⟨g,cap,hv⟩
theorem R.lw {x:Operand} {tt e:TypeId} {b o c m sz gn:Nat} {g:Bool} {v:Value} {xs:List Value} (hv:Zz g m (xs.drop o)=F v) (h:Rj P n ds d ops K pl (i::pend) (Mem C w0 A) ((t,v)::l)) (ho:Aw ops.toList i=F ⟨F t,.load tt x,ty,ps,af,gd⟩:=by rfl)
  (hx:ev l x=F (.pointer (F ⟨b,o,O⟩)):=by rfl) (hb:Af e sz (Z (F ⟨b,0,O⟩) gn c) gn xs∈A:=by(repeat (first | exact List.Mem.head _ | apply List.Mem.tail));first | done | fail) (ht:∀ w,(isAgg tt).run P w=.ok g w:=by intro w;simp;(try rfl);first | done | fail) (hs:∀ w,(sizeOf tt).run P w=.ok m w:=by intro w;simp;(try rfl);first | done | fail) (hg:Cv ops.toList l gd=F true:=by rfl):
  Rj P n ds d ops K (i::pl) pend (Mem C w0 A) l:=
 R.takeS ho hg rfl (fun a w ha hw=>run_load hx ha (by
  obtain⟨Fz,h1,_⟩:=hw.has hb;have:=(Af.cs h1).drop o;rw[Nat.zero_add] at this;exact Fu this hv (ht w) (hs w))) h
theorem Gk:∀ (xs:List Value) (o:Nat) (vs xs' ys:List Value),AC xs o vs=F xs'->AC (xs++ys) o vs=F (xs'++ys)
 | [],0,[],xs',ys,h=>by cases h;cases ys<;>rfl
 | x::xs,0,[],xs',ys,h=>by cases h;rfl
 | [],0,v::vs,xs',ys,h=>by cases h
 | [],o+1,vs,xs',ys,h=>by cases vs<;>cases h
 | x::xs,0,v::vs,xs',ys,h=>by
  unfold AC at h;split at h
  ·rename_i r hr;cases h
   show(match AC (xs++ys) 0 vs with | some r=>F (v::r) | none=>O)=_;rw[Gk xs 0 vs r ys hr];rfl
  ·cases h
 | x::xs,o+1,vs,xs',ys,h=>by
  unfold AC at h;split at h
  ·rename_i r hr;cases h
   show(match AC (xs++ys) o vs with | some r=>F (x::r) | none=>O)=_;rw[Gk xs o vs r ys hr];rfl
  ·cases h
theorem Iy:∀ (xs:List Value) (o:Nat) (vs xs':List Value),AC xs o vs=F xs'->xs'.length=xs.length
 | l,0,[],xs',h=>by cases l<;>(cases h;rfl)
 | [],0,v::vs,xs',h=>by cases h
 | [],o+1,vs,xs',h=>by cases vs<;>cases h
 | x::xs,0,v::vs,xs',h=>by
  unfold AC at h;split at h
  ·rename_i r hr;cases h;simp[Iy xs 0 vs r hr]
  ·cases h
 | x::xs,o+1,vs,xs',h=>by
  unfold AC at h;split at h
  ·rename_i r hr;cases h;simp[Iy xs o vs r hr]
  ·cases h
theorem R.sw {x y:Operand} {tt e:TypeId} {b o c sz gn:Nat} {v:Value} {xs xs':List Value} (hv:AC xs o v.cells.toList=F xs') (h:Rj P n ds d ops K pl pend' (Mem C w0 A') l) (ho:Aw ops.toList i=F ⟨O,.store tt x y,ty,ps,af,gd⟩:=by rfl) (hx:ev l x=F (.pointer (F ⟨b,o,O⟩)):=by rfl) (hy:ev l y=F v:=by rfl)
  (hr:Dt (Af e sz (Z (F ⟨b,0,O⟩) gn c) gn xs) (Af e sz (Z (F ⟨b,0,O⟩) gn c) gn xs') A A':=by(repeat (first | exact Dt.hd | apply Dt.tl));first | done | fail) (ho1:v.cells.toList.all Value.oneCell'=true:=by rfl) (hs:∀ w,(sizeOf tt).run P w=.ok v.cells.size w:=by intro w;simp;(try rfl);first | done | fail)
  (hp:Sq (ι:=Unit) d ops i pend pend' (fun _=>Mem C w0 A') (Mem C w0 A):=by first | exact .inl ⟨rfl,rfl⟩ | exact .inr (.inl ⟨rfl,rfl⟩)) (hg:Cv ops.toList l gd=F true:=by rfl):Rj P n ds d ops K (i::pl) pend (Mem C w0 A) l:=
 R.eff (ι:=Unit) (Si:=fun _=>Mem C w0 A') (li:=fun _=>l) ho hg rfl (fun a w K' ha hd hw hk=>by
  obtain⟨G,⟨⟨g1,g2⟩,g0⟩,g3,g4⟩:=hw.rep hr;rcases g2 with ⟨g2,_⟩ | ⟨g,cap,cur,hvv,q1,q2,q3,q4,q5,q6⟩
  ·cases g2
  cases hvv
  have hcur:cur.toList=xs++cur.toList.drop (gn*sz):=by rw[<- q6,List.take_append_drop]
  have hse:=Gk xs o v.cells.toList xs' (cur.toList.drop (gn*sz)) hv;have hl:=Iy _ _ _ _ hv;obtain⟨w',k1,k2,k3,k4⟩:=F7 (P:=P) v.cells.toList 0 cur.toList _ w (by rw[Array.toArray_toList];exact q2) (by rw[hcur];exact hse) ho1;unfold Eo;have:(execOp a.eval ⟨O,.store tt x y,ty,ps,af,gd⟩).run P w=.ok .skip w':=by
   simp only[execOp,ha.ev hx,ha.ev hy,Sem.run_bind,Instr.storeAt,Instr.sureAddr,storeVar]
   simp[Sem.run_bind,hs w,k1,pure,Sem.run]
  rw[this];refine hk () undef w' (g4 G w' ⟨⟨by rw[hl];exact g1,.inr ⟨b,c,_,rfl,q1,k2,q3,q4,?_,?_⟩⟩,g0⟩ (k3.sub (fun k _ e=>by subst e;exact g0 _ rfl)) (fun k hk=>⟨by rw[k4];exact(g3 k hk).1,.inl hk⟩)) ha
  ·have:=congrArg List.length hcur;rw[Array.length_toList,List.length_append] at this;rw[List.size_toArray,List.length_append,hl];omega
  ·rw[List.toList_toArray,List.take_append_of_le_length (by omega),List.take_of_length_le (by omega)]) hp (fun _=>h)
end
end
section
open Go Go.Lib
structure Gf where
 root:Int
 nodes:List Nd
def Ib:Gf:=⟨0,[]⟩
def Iv (x:Sc×Int):List (Sc×Int)->List (Sc×Int)
 | []=>[x]
 | y::r=>if CM y.1 x.1<=0 then y::Iv x r else x::y::r
def Ky:List (Sc×Int)->List (Sc×Int)
 | []=>[]
 | x::r=>Iv x (Ky r)
theorem Hu (x:Sc×Int):∀ l,(Iv x l).Perm (x::l)
 | []=>.refl _
 | y::r=>by
  unfold Iv;split
  ·exact((Hu x r).cons y).trans (.swap ..)
  ·exact .refl _
theorem Ca:∀ l,(Ky l).Perm l
 | []=>.refl _
 | x::r=>(Hu x _).trans ((Ca r).cons x)
theorem Aji {x y z:Sc} (h1:CM x y<=0) (h2:CM y z<=0):CM x z<=0:=by
 rcases AP.rng x y with h | h | h
 ·rcases AP.rng y z with k | k | k
  ·rw[AP.tr _ _ _ h k];decide
  ·rw[<- (AP.eq y z).1 k,h];decide
  ·omega
 ·rw[(AP.eq x y).1 h];exact h2
 ·omega
theorem It (x:Sc×Int):∀ l:List (Sc×Int),l.Pairwise (fun a b=>CM a.1 b.1<=0)->(Iv x l).Pairwise (fun a b=>CM a.1 b.1<=0)
 | [],_=>List.pairwise_singleton ..
 | y::r,h=>by
  unfold Iv;obtain⟨h1,h2⟩:=List.pairwise_cons.1 h;split
  ·rename_i hc;refine List.pairwise_cons.2 ⟨fun z hz=>?_,It x r h2⟩;rcases List.mem_cons.1 ((Hu x r).mem_iff.1 hz) with rfl | hz
   ·exact hc
   ·exact h1 z hz
  ·rename_i hc;have hx:CM x.1 y.1<=0:=by have:=AP.sym x.1 y.1;omega
   refine List.pairwise_cons.2 ⟨fun z hz=>?_,h⟩;rcases List.mem_cons.1 hz with rfl | hz
   ·exact hx
   ·exact Aji hx (h1 z hz)
theorem JX:∀ l,(Ky l).Pairwise (fun a b=>CM a.1 b.1<=0)
 | []=>List.Pairwise.nil
 | x::r=>It x _ (JX r)
theorem Adk {l:List (Sc×Int)} (h:(l.map (·.1)).Nodup) {a b:Sc×Int} (ha:a∈l) (hb:b∈l) (e:a.1=b.1):a=b:=by
 induction l with
 | nil=>cases ha
 | cons x r ih=>
  rw[List.map_cons,List.nodup_cons] at h;rcases List.mem_cons.1 ha with e1 | h1
  ·rcases List.mem_cons.1 hb with e2 | h2
   ·rw[e1,e2]
   ·exact absurd (by rw[<- e1,e];exact List.mem_map_of_mem h2) h.1
  ·rcases List.mem_cons.1 hb with e2 | h2
   ·exact absurd (by rw[<- e2,<- e];exact List.mem_map_of_mem h1) h.1
   ·exact ih h.2 h1 h2
theorem Ad7 {l m:List (Sc×Int)} (hn:(l.map (·.1)).Nodup) (hs:m.Pairwise (fun a b=>CM a.1 b.1<=0)) (hp:m.Perm l):m=Ky l:=
 List.Perm.eq_of_pairwise (le:=fun a b=>CM a.1 b.1<=0) (fun a b ha hb k1 k2=>by
  have:=AP.sym a.1 b.1;exact Adk hn (hp.mem_iff.1 ha) ((Ca l).mem_iff.1 hb) ((AP.eq _ _).1 (by omega))) hs (JX l) (hp.trans (Ca l).symm)
def Dm (x:Nd):List (Sc×Int):=if x.kind=2/\x.keys.length=x.kids.length then Ky (x.keys.zip x.kids) else []
def AB (x:Nd):List Int:=if x.kind=1 then x.kids else (Dm x).map (·.2)
def BK (x:Nd):List Sc:=(Dm x).map (·.1)
theorem CN {x:Nd} {k:Int} (h:k∈AB x):k∈x.kids:=by
 unfold AB at h;split at h
 ·exact h
 ·obtain⟨p,hp,rfl⟩:=List.mem_map.1 h;unfold Dm at hp;split at hp
  ·exact(List.of_mem_zip ((Ca _).mem_iff.1 hp)).2
  ·cases hp
theorem QC {x:Nd} (h:x.kind=1\/(x.kind=2/\x.keys.length=x.kids.length)) {k:Int} (hk:k∈x.kids):k∈AB x:=by
 unfold AB;by_cases h1:x.kind=1
 ·rw[if_pos h1];exact hk
 ·rw[if_neg h1];have h2:=h.resolve_left h1;unfold Dm;rw[if_pos h2];obtain⟨i,hi,rfl⟩:=List.getElem_of_mem hk;have:(x.keys[i]'(by omega),x.kids[i])∈x.keys.zip x.kids:=by
   rw[List.mem_iff_getElem];exact⟨i,by rw[List.length_zip];omega,by rw[List.getElem_zip]⟩
  exact List.mem_map.2 ⟨_,(Ca _).mem_iff.2 this,rfl⟩
section num
variable {κ:Type} [DecidableEq κ]
def BD (m:List (κ×Int)) (s:κ):List (κ×Int):=if (A3 s m).isSome then m else mput s (m.length:Int) m
def FL:List κ->List (κ×Int)->List Int
 | [],_=>[]
 | s::r,m=>(A3 s (BD m s)).getD 0::FL r (BD m s)
def Bp (l:List κ) (m:List (κ×Int)):List (κ×Int):=l.foldl BD m
def GB (m:List (κ×Int)):List κ:=m.map (·.1)
theorem C1 {s:κ}:∀ {m:List (κ×Int)},(A3 s m).isSome=true↔s∈GB m
 | []=>by simp[A3,GB]
 | (y,u)::r=>by
  unfold A3;by_cases h:y=s
  ·subst h;simp[GB]
  ·rw[if_neg h,C1];have hn:s≠y:=fun e=>h e.symm;simp[GB,hn]
theorem M0 {s:κ} {v:Int}:∀ {m:List (κ×Int)},s∉GB m->mput s v m=m++[(s,v)]
 | [],_=>rfl
 | (y,u)::r,h=>by
  unfold GB at h;rw[List.map_cons,List.mem_cons,not_or] at h;unfold mput;rw[if_neg (fun e=>h.1 e.symm),M0 h.2];rfl
theorem Lz {m:List (κ×Int)} {s:κ} (h:s∈GB m):BD m s=m:=by unfold BD;rw[if_pos (C1.2 h)]
theorem LL {m:List (κ×Int)} {s:κ} (h:s∉GB m):BD m s=m++[(s,(m.length:Int))]:=by unfold BD;rw[if_neg (fun e=>h (C1.1 e)),M0 h]
theorem YY {s:κ} {v:Int} {m r:List (κ×Int)} (h:A3 s m=F v):A3 s (m++r)=F v:=by
 induction m with
 | nil=>cases h
 | cons p t ih=>
  obtain⟨y,u⟩:=p;unfold A3 at h;show A3 s ((y,u)::(t++r))=_;unfold A3;split at h
  ·rename_i e;rw[if_pos e];exact h
  ·rename_i e;rw[if_neg e];exact ih h
theorem WJ {m:List (κ×Int)} {s t:κ} {v:Int} (h:A3 s m=F v):A3 s (BD m t)=F v:=by
 by_cases ht:t∈GB m
 ·rw[Lz ht];exact h
 ·rw[LL ht];exact YY h
theorem PU {s:κ} {v:Int}:∀ {l:List κ} {m:List (κ×Int)},A3 s m=F v->A3 s (Bp l m)=F v
 | [],_,h=>h
 | t::r,m,h=>PU (l:=r) (m:=BD m t) (WJ h)
theorem YG (m:List (κ×Int)) (s t:κ):t∈GB (BD m s)↔t=s\/t∈GB m:=by
 by_cases h:s∈GB m
 ·rw[Lz h];constructor
  ·exact .inr
  ·rintro(rfl | h2)
   ·exact h
   ·exact h2
 ·rw[LL h];unfold GB;simp[or_comm]
theorem Iw:∀ (l:List κ) (m:List (κ×Int)),FL l m=l.map fun s=>(A3 s (Bp l m)).getD 0
 | [],_=>rfl
 | s::r,m=>by
  have h1:∃ v,A3 s (BD m s)=F v:=Option.isSome_iff_exists.1 (C1.2 ((YG m s s).2 (.inl rfl)));obtain⟨v,hv⟩:=h1;show(A3 s (BD m s)).getD 0::FL r (BD m s)=(A3 s (Bp r (BD m s))).getD 0::r.map fun t=>(A3 t (Bp r (BD m s))).getD 0;rw[PU hv,hv,Iw r]
theorem Nf {x y:κ} {v:Int}:∀ {m:List (κ×Int)},A3 y (mput x v m)=if x=y then F v else A3 y m
 | []=>by simp[mput,A3]
 | (z,u)::r=>by
  unfold mput;by_cases e:z=x
  ·rw[if_pos e];subst e;by_cases h:z=y<;>simp[A3,h]
  ·rw[if_neg e];unfold A3;rw[Nf];by_cases h:z=y
   ·rw[if_pos h,if_pos h,if_neg (by rw[<- h];exact fun h=>e h.symm)]
   ·rw[if_neg h,if_neg h]
def SE (m:List (κ×Int)):Prop:=(GB m).Nodup/\∀ (i:Nat) (p:κ×Int),m[i]? =F p->p.2=(i:Int)
theorem SE.add {m:List (κ×Int)} (h:SE m) (s:κ):SE (BD m s):=by
 by_cases hs:s∈GB m
 ·rw[Lz hs];exact h
 ·rw[LL hs];refine⟨?_,fun i p hp=>?_⟩
  ·unfold GB;rw[List.map_append,List.map_singleton];exact List.nodup_append.2 ⟨h.1,by simp,fun a ha b hb=>by rw[List.mem_singleton] at hb;subst hb;exact fun e=>hs (e▸ha)⟩
  ·by_cases hi:i<m.length
   ·rw[List.getElem?_append_left hi] at hp;exact h.2 i p hp
   ·rw[List.getElem?_append_right (by omega)] at hp;have:i - m.length=0:=by
     cases hd:i - m.length with
     | zero=>rfl
     | succ j=>rw[hd] at hp;cases hp
    rw[this] at hp;cases hp;show(m.length:Int)=i;omega
theorem SE.end':∀ {l:List κ} {m:List (κ×Int)},SE m->SE (Bp l m)
 | [],_,h=>h
 | s::r,m,h=>SE.end' (l:=r) (h.add s)
theorem KE:SE ([]:List (κ×Int)):=⟨List.nodup_nil,fun i p h=>by cases h⟩
theorem Pi {m:List (κ×Int)} (h:SE m) {s:κ} {v:Int} (hv:A3 s m=F v):∃ i:Nat,v=(i:Int)/\m[i]? =F (s,v):=by
 have:∀ m:List (κ×Int),A3 s m=F v->∃ i:Nat,m[i]? =F (s,v):=by
  intro m;induction m with
  | nil=>intro h;cases h
  | cons p r ih=>
   obtain⟨y,u⟩:=p;intro h;unfold A3 at h;split at h
   ·rename_i e;cases h;subst e;exact⟨0,rfl⟩
   ·obtain⟨i,hi⟩:=ih h;exact⟨i+1,hi⟩
 obtain⟨i,hi⟩:=this m hv;exact⟨i,h.2 i _ hi,hi⟩
theorem SE.inj {m:List (κ×Int)} (h:SE m) {s t:κ} (hs:s∈GB m) (ht:t∈GB m) (e:(A3 s m).getD 0=(A3 t m).getD 0):s=t:=by
 obtain⟨v,hv⟩:=Option.isSome_iff_exists.1 (C1.2 hs);obtain⟨u,hu⟩:=Option.isSome_iff_exists.1 (C1.2 ht);rw[hv,hu] at e;obtain⟨i,h1,h2⟩:=Pi h hv;obtain⟨j,k1,k2⟩:=Pi h hu;have e:v=u:=e;obtain rfl:i=j:=by omega
 rw[h2] at k2;cases k2;rfl
theorem G4:∀ {l:List κ} {m:List (κ×Int)} {t:κ},t∈GB (Bp l m)↔t∈l\/t∈GB m
 | [],m,t=>by simp[Bp]
 | s::r,m,t=>by
  show t∈GB (Bp r (BD m s))↔_;rw[G4,YG,List.mem_cons];constructor
  ·rintro(h | h | h)
   ·exact .inl (.inr h)
   ·exact .inl (.inl h)
   ·exact .inr h
  ·rintro((h | h) | h)
   ·exact .inr (.inl h)
   ·exact .inl h
   ·exact .inr (.inr h)
theorem Mk (l:List κ) (m:List (κ×Int)):(FL l m).length=l.length:=by rw[Iw,List.length_map]
theorem Gn:∀ (a b:List κ),a.Nodup->(∀ x∈a,x∈b)->a.length<=b.length
 | [],_,_,_=>Nat.zero_le _
 | x::a,b,h,hs=>by
  obtain⟨h1,h2⟩:=List.nodup_cons.1 h;have hx:=hs x (List.mem_cons_self ..);have:=Gn a (b.erase x) h2 (fun y hy=>(List.mem_erase_of_ne (fun e:y=x=>h1 (by rw[<- e];exact hy))).2 (hs y (List.mem_cons_of_mem _ hy)));rw[List.length_erase_of_mem hx] at this;have:=List.length_pos_of_mem hx;rw[List.length_cons];omega
theorem KI (l:List κ):(Bp l []).length=(GB (Bp l [])).length:=(List.length_map _).symm
theorem ZZ (l:List κ):(Bp l []).length<=l.length:=by
 rw[KI];exact Gn _ _ (SE.end' KE).1 (fun x hx=>(G4.1 hx).elim id (fun h=>by cases h))
theorem P8 {l:List κ} {v:Int} (h:v∈FL l []):0<=v/\v<l.length:=by
 rw[Iw] at h;obtain⟨s,hs,rfl⟩:=List.mem_map.1 h;obtain⟨v,hv⟩:=Option.isSome_iff_exists.1 (C1.2 (G4.2 (.inl hs):s∈GB (Bp l [])));rw[hv];obtain⟨i,h1,h2⟩:=Pi (SE.end' KE) hv;have h3:=(List.getElem?_eq_some_iff.1 h2).1;have:=ZZ l;show 0<=v/\v<_;omega
end num
end
section
def K4 (v:Value) (ks:List Sc):Aj:=⟨fun Fz w=>∃ (A:Option Addr) (c:Nat),v=Z A ks.length c/\Fk w Fz A ks,fun Fz w w' h ⟨A,c,e,hk⟩=>⟨A,c,e,hk.to fun b o u hb hu=>⟨(World.cell?_of_block (w:=w) (a:=⟨b,o,O⟩) (h b hb)).trans hu,hb⟩⟩⟩
theorem Ab8 {ks:List Sc}:∀ {j:Nat} {x:Sc},ks[j]? =F x->∀ i v,(DO x)[i]? =F v->(ks.flatMap DO)[j*3+i]? =F v:=by
 induction ks with
 | nil=>intro j x h;cases h
 | cons y r ih=>
  intro j x h i v hv;rw[List.flatMap_cons];cases j with
  | zero=>cases h;rw[Nat.zero_mul,Nat.zero_add,List.getElem?_append_left (List.getElem?_eq_some_iff.1 hv).1];exact hv
  | succ j=>
   rw[List.getElem?_append_right (by show 3<=_;omega)];have:=ih (j:=j) (x:=x) h i v hv;rw[show(j+1)*3+i - (DO y).length=j*3+i by show(j+1)*3+i - 3=_;omega];exact this
theorem Aef (ks:List Sc):(ks.flatMap DO).length=ks.length*3:=by
 induction ks with
 | nil=>rfl
 | cons y r ih=>rw[List.flatMap_cons,List.length_append,ih,List.length_cons];show 3+_=_;omega
theorem Pd:∀ {ks:List Sc} {i:Nat} {v:Value},(ks.flatMap DO)[i]? =F v->∃ x,ks[i / 3]? =F x/\(DO x)[i%3]? =F v
 | [],i,v,h=>by cases h
 | y::r,i,v,h=>by
  rw[List.flatMap_cons] at h;by_cases hi:i<3
  ·rw[List.getElem?_append_left (by show i<3;exact hi)] at h;exact⟨y,by rw[Nat.div_eq_of_lt hi];rfl,by rw[Nat.mod_eq_of_lt hi];exact h⟩
  ·rw[List.getElem?_append_right (by show 3<=i;omega)] at h;obtain⟨x,h1,h2⟩:=Pd (ks:=r) (i:=i - 3) h;exact⟨x,by rw[show i / 3=(i - 3) / 3+1 by omega];exact h1,by rw[show i%3=(i - 3)%3 by omega];exact h2⟩
theorem Fk.cs {w:Y} {S:Nat->Prop} {b o:Nat} {ks:List Sc} (h:Fk w S (F ⟨b,o,O⟩) ks):Cs w b o (ks.flatMap DO):=fun i v hv=>by
 obtain⟨x,h1,h2⟩:=Pd hv;obtain⟨b',o',e,_,hc⟩:=h _ x h1;cases e
 have:=hc _ v h2
 rwa [show o+i / 3*3+i%3=o+i by omega] at this
theorem Acn (ks:List Sc):(ks.flatMap DO).all Value.oneCell'=true:=by
 rw[List.all_eq_true];intro v hv;obtain⟨x,_,hx⟩:=List.mem_flatMap.1 hv;simp[DO] at hx;rcases hx with rfl | rfl | rfl<;>rfl
theorem Af.ks {e:TypeId} {v:Value} {ks:List Sc} {Fz:Nat->Prop} {w:Y} (h:(Af e 3 v ks.length (ks.flatMap DO)).is Fz w):(K4 v ks).is Fz w:=by
 obtain⟨⟨h1,h2⟩,h3⟩:=h;rcases h2 with ⟨rfl,h0⟩ | ⟨g,cap,cur,rfl,_,hg,_,_,_,ht⟩
 ·have:ks=[]:=List.eq_nil_of_length_eq_zero h0;subst this;exact⟨O,0,rfl,fun j x hj=>by cases hj⟩
 ·refine⟨_,cap,rfl,fun j x hj=>⟨g,0,rfl,h3 g rfl,fun i u hu=>?_⟩⟩;have h4:=Ab8 hj i u hu;rw[<- ht,List.getElem?_take] at h4;split at h4
  ·simp only[World.cell?,hg]
   simpa using h4
  ·cases h4
theorem Bm.as {X X':Aj} {r:List Aj} {w:Y} {G:Nat->Prop} (h:Bm (X::r) w G) (hx:∀ Fz w,X.is Fz w->X'.is Fz w):Bm (X'::r) w G:=let ⟨Fz,h1,h2,h3⟩:=h;⟨Fz,hx Fz w h1,h2,h3⟩
def GT (w:Y) (S:Nat->Prop) (A:Option Addr) (is:List Int):Prop:=∀ (j:Nat) (i:Int),is[j]? =F i->∃ b o,A=F ⟨b,o,O⟩/\S b/\Cs w b (o+j*1) [I J i]
theorem GT.to {w w':Y} {S S':Nat->Prop} {A:Option Addr} {is:List Int} (h:GT w S A is) (hc:∀ b o v,S b->w.cell? ⟨b,o,O⟩=F v->w'.cell? ⟨b,o,O⟩=F v/\S' b):GT w' S' A is:=fun j x hj=>by
 obtain⟨b,o,e,hb,hcs⟩:=h j x hj;exact⟨b,o,e,(hc b _ _ hb (hcs 0 _ rfl)).2,fun i v hv=>(hc b _ _ hb (hcs i v hv)).1⟩
def isA (v:Value) (is:List Int):Aj:=⟨fun Fz w=>∃ (A:Option Addr) (c:Nat),v=Z A is.length c/\GT w Fz A is,fun Fz w w' h ⟨A,c,e,hk⟩=>⟨A,c,e,hk.to fun b o u hb hu=>⟨(World.cell?_of_block (w:=w) (a:=⟨b,o,O⟩) (h b hb)).trans hu,hb⟩⟩⟩
theorem GT.cs {w:Y} {S:Nat->Prop} {b o:Nat} {is:List Int} (h:GT w S (F ⟨b,o,O⟩) is):Cs w b o (is.map (I J)):=fun i v hv=>by
 rw[List.getElem?_map] at hv;cases hi:is[i]? with
 | none=>rw[hi] at hv;cases hv
 | some x=>
  rw[hi] at hv;cases hv;obtain⟨b',o',e,_,hc⟩:=h i x hi;cases e
  have:=hc 0 _ rfl
  rwa [Nat.mul_one,Nat.add_zero] at this
theorem QH (is:List Int):(is.map (Value.int .i64)).all Value.oneCell'=true:=by rw[List.all_map,List.all_eq_true];intro x _;rfl
theorem Af.is' {e:TypeId} {v:Value} {n:Nat} {is:List Int} {Fz:Nat->Prop} {w:Y} (h:(Af e 1 v n (is.map (I J))).is Fz w) (hn:n=is.length):(isA v is).is Fz w:=by
 subst hn;obtain⟨⟨h1,h2⟩,h3⟩:=h;rcases h2 with ⟨rfl,h0⟩ | ⟨g,cap,cur,rfl,_,hg,_,_,_,ht⟩
 ·have:is=[]:=List.eq_nil_of_length_eq_zero h0;subst this;exact⟨O,0,rfl,fun j x hj=>by cases hj⟩
 ·refine⟨_,cap,rfl,fun j x hj=>⟨g,0,rfl,h3 g rfl,fun i u hu=>?_⟩⟩;cases i with
  | succ i=>cases hu
  | zero=>
   cases hu
   have h4:(is.map (Value.int .i64))[j]? =F (I J x):=by rw[List.getElem?_map,hj];rfl
   rw[<- ht,List.getElem?_take] at h4;split at h4
   ·simp only[World.cell?,hg]
    simpa using h4
   ·cases h4
def NP (x:Nd) (kv iv:Value):List Value:=[I J x.kind,I J x.x.kind,I J x.x.num,Q x.x.str,kv,iv]
def CL (w:Y) (S:Nat->Prop) (A:Option Addr) (ns:List Nd):Prop:=∀ j x,ns[j]? =F x->∃ b o KA kc IA ic,A=F ⟨b,o,O⟩/\S b/\Cs w b (o+j*6) (NP x (Z KA x.keys.length kc) (Z IA x.kids.length ic))/\Fk w S KA x.keys/\GT w S IA x.kids
theorem CL.to {w w':Y} {S S':Nat->Prop} {A:Option Addr} {ns:List Nd} (h:CL w S A ns) (hc:∀ b o v,S b->w.cell? ⟨b,o,O⟩=F v->w'.cell? ⟨b,o,O⟩=F v/\S' b):CL w' S' A ns:=fun j x hj=>by
 obtain⟨b,o,KA,kc,IA,ic,e,hb,hcs,hk,hi⟩:=h j x hj;exact⟨b,o,KA,kc,IA,ic,e,(hc b _ _ hb (hcs 0 _ rfl)).2,fun i v hv=>(hc b _ _ hb (hcs i v hv)).1,hk.to hc,hi.to hc⟩
def Eh (A:Option Addr) (c:Nat) (g:Gf):Value:=.agg #[I J g.root,Z A g.nodes.length c]
def Nq (v:Value) (g:Gf):Aj:=⟨fun Fz w=>∃ (A:Option Addr) (c:Nat),v=Eh A c g/\CL w Fz A g.nodes,fun Fz w w' h ⟨A,c,e,hk⟩=>⟨A,c,e,hk.to fun b o u hb hu=>⟨(World.cell?_of_block (w:=w) (a:=⟨b,o,O⟩) (h b hb)).trans hu,hb⟩⟩⟩
def AU:List Nd->List (Value×Value)->List Value
 | x::r,p::q=>NP x p.1 p.2++AU r q
 | _,_=>[]
def E4 (it:TypeId):List Nd->List (Value×Value)->List Aj
 | x::r,p::q=>K4 p.1 x.keys::Af it 1 p.2 x.kids.length (x.kids.map (I J))::E4 it r q
 | _,_=>[]
theorem KS {it:TypeId}:∀ (ns:List Nd) (vs:List (Value×Value)) (x:Nd) (p:Value×Value),vs.length=ns.length->AU (ns++[x]) (vs++[p])=AU ns vs++NP x p.1 p.2/\E4 it (ns++[x]) (vs++[p])=E4 it ns vs++[K4 p.1 x.keys,Af it 1 p.2 x.kids.length (x.kids.map (I J))]
 | [],[],x,p,_=>⟨by simp[AU],by simp[E4]⟩
 | y::r,q::t,x,p,h=>by
  obtain⟨h1,h2⟩:=KS (it:=it) r t x p (by simpa using h);simp only[List.cons_append,AU,E4,h1,h2,List.append_assoc,and_self]
 | [],_::_,x,p,h=>by cases h
 | _::_,[],x,p,h=>by cases h
theorem G9 (x:Nd) (kv iv:Value):(NP x kv iv).length=6:=rfl
theorem PJ:∀ (ns:List Nd) (vs:List (Value×Value)),vs.length=ns.length->(AU ns vs).length=ns.length*6
 | [],[],_=>rfl
 | y::r,q::t,h=>by
  rw[AU,List.length_append,PJ r t (by simpa using h),List.length_cons,G9];omega
 | [],_::_,h=>by cases h
 | _::_,[],h=>by cases h
theorem IQ:∀ (ns:List Nd) (vs:List (Value×Value)) (i:Nat) (x:Nd) (p:Value×Value),vs.length=ns.length->ns[i]? =F x->vs[i]? =F p->(AU ns vs).drop (i*6)=NP x p.1 p.2++AU (ns.drop (i+1)) (vs.drop (i+1))
 | y::r,q::t,0,x,p,h,hx,hp=>by cases hx;cases hp;rfl
 | y::r,q::t,i+1,x,p,h,hx,hp=>by
  have:=IQ r t i x p (by simpa using h) hx hp;rw[AU,show(i+1)*6=6+i*6 by omega,<- List.drop_drop];have e:(NP y q.1 q.2++AU r t).drop 6=AU r t:=List.drop_left' (G9 ..);rw[e,this];rfl
 | [],_,i,x,p,h,hx,hp=>by cases hx
 | _::_,[],i,x,p,h,hx,hp=>by cases h
theorem CO:∀ (a l:List Value) (o:Nat) (vs r:List Value),AC l o vs=F r->AC (a++l) (a.length+o) vs=F (a++r)
 | [],l,o,vs,r,h=>by rw[List.length_nil,Nat.zero_add];exact h
 | x::a,l,o,vs,r,h=>by
  have:=CO a l o vs r h;rw[List.length_cons,show a.length+1+o=(a.length+o)+1 by omega];show(match AC (a++l) (a.length+o) vs with | some r=>F (x::r) | none=>O)=_;rw[this];rfl
theorem Qw:∀ (ns:List Nd) (vs:List (Value×Value)) (i:Nat) (x:Nd) (p:Value×Value) (iv:Value) (k:Int),vs.length=ns.length->ns[i]? =F x->vs[i]? =F p→
  AC (AU ns vs) (i*6+5) [iv]=F (AU (ns.modify i fun n=>{n with kids:=n.kids++[k]}) (vs.set i (p.1,iv)))
 | y::r,q::t,0,x,p,iv,k,h,hx,hp=>by
  cases hx;cases hp
  have hn:∀ l:List Value,AC l 0 []=F l:=by intro l;cases l<;>rfl
  have:=CO [I J y.kind,I J y.x.kind,I J y.x.num,Q y.x.str,q.1] (q.2::AU r t) 0 [iv] (iv::AU r t) (by show(match AC (AU r t) 0 [] with | some r=>F (iv::r) | none=>O)=_;rw[hn]);exact this
 | y::r,q::t,i+1,x,p,iv,k,h,hx,hp=>by
  have:=Qw r t i x p iv k (by simpa using h) hx hp;rw[AU,show(i+1)*6+5=(NP y q.1 q.2).length+(i*6+5) by rw[G9];omega,CO _ _ _ _ _ this];rw[List.modify_succ_cons,List.set_cons_succ];rfl
 | [],_,i,x,p,iv,k,h,hx,hp=>by cases hx
 | _::_,[],i,x,p,iv,k,h,hx,hp=>by cases h
theorem UV {it:TypeId}:∀ (ns:List Nd) (vs:List (Value×Value)) (i:Nat) (x:Nd) (p:Value×Value),vs.length=ns.length->ns[i]? =F x->vs[i]? =F p→
  ∃ A1 A2,E4 it ns vs=A1++Af it 1 p.2 x.kids.length (x.kids.map (I J))::A2/\∀ (iv:Value) (k:Int),E4 it (ns.modify i fun n=>{n with kids:=n.kids++[k]}) (vs.set i (p.1,iv))=A1++Af it 1 iv (x.kids.length+1) ((x.kids++[k]).map (I J))::A2
 | y::r,q::t,0,x,p,h,hx,hp=>by
  cases hx;cases hp
  refine⟨[K4 q.1 y.keys],E4 it r t,rfl,fun iv k=>?_⟩;rw[List.modify_zero_cons,List.set_cons_zero];show K4 q.1 y.keys::Af it 1 iv (y.kids++[k]).length _::E4 it r t=_;rw[List.length_append];rfl
 | y::r,q::t,i+1,x,p,h,hx,hp=>by
  obtain⟨A1,A2,h1,h2⟩:=UV (it:=it) r t i x p (by simpa using h) hx hp;refine⟨K4 q.1 y.keys::Af it 1 q.2 y.kids.length (y.kids.map (I J))::A1,A2,by rw[E4,h1];rfl,fun iv k=>?_⟩;rw[List.modify_succ_cons,List.set_cons_succ,E4,h2 iv k];rfl
 | [],_,i,x,p,h,hx,hp=>by cases hx
 | _::_,[],i,x,p,h,hx,hp=>by cases h
section
variable {C:Nat->Prop} {w0 w:Y} {A A1 A2:List Aj} {X:Aj}
theorem Pk.mid:∀ (A1 A2:List Aj),Pk X (A1++X::A2) (A1++A2)
 | [],_=>.hd
 | _::A1,A2=>.tl (Pk.mid A1 A2)
theorem Q6:Mem C w0 (star (A1++X::A2)::A) w↔Mem C w0 (X::star (A1++A2)::A) w:=by
 constructor
 ·rintro⟨he,Fz,h1,h2,h3⟩;obtain⟨F',k1,k2,k3⟩:=Bm.pk (Pk.mid A1 A2) (show Bm (A1++X::A2) w Fz from h1);exact⟨he,F',k1,fun b hb=>h2 b (k2 b hb),fun b=>Fz b/\¬F' b,k3,fun b hb=>⟨h2 b hb.1,hb.2⟩,h3.mono (fun b hb=>⟨⟨hb.1,fun h=>hb.2 (k2 b h)⟩,fun h=>hb.2 h.1⟩) (fun _ _=>rfl)⟩
 ·rintro⟨he,F',k1,k2,Fz,h1,h2,h3⟩;refine⟨he,fun b=>F' b\/Fz b,?_,fun b hb=>hb.elim (k2 b) (fun h=>(h2 b h).1),h3.mono (fun b hb=>⟨hb.1.1,fun h=>h.elim hb.1.2 hb.2⟩) (fun _ _=>rfl)⟩;have:Bm ([X]++(A1++A2)) w (fun b=>F' b\/Fz b):=⟨F',k1,fun b hb=>.inl hb,Bm.mono (A:=A1++A2) h1 (fun b hb=>⟨.inr hb,(h2 b hb).2⟩) (fun _ _=>rfl)⟩
  exact Bm.swap this
end
section
variable {P:Program} {Fz:Fence} {Qr:Exit->Act->Y->Prop} {n:Nat} {ds:List Deferred} {k:List Je} {d:Bool} {ops:Array Oper} {K:Act->Y->Prop} {i:Nat} {pl pend:List Nat} {l:Env} {S:Y->Prop}
theorem R.any {ι:Type} {Si:ι->Y->Prop} (hs:∀ w,S w->∃ x,Si x w) (hb:∀ x w,Si x w->S w) (h:∀ x,Rj P n ds d ops K pl pend (Si x) l):Rj P n ds d ops K pl pend S l:=by
 intro hok;cases d with
 | false=>exact fun a w ha hw=>let ⟨x,hx⟩:=hs w hw;h x hok a w ha hx
 | true=>exact fun Rs hRs a w ha hw=>let ⟨x,hx⟩:=hs w hw;h x hok Rs (fun j hj w hw=>hRs j hj w (hb x w hw)) a w ha hx
theorem R.iff {S':Y->Prop} (hs:∀ w,S w↔S' w) (h:Rj P n ds d ops K pl pend S' l):Rj P n ds d ops K pl pend S l:=R.any (ι:=Unit) (fun w hw=>⟨(),(hs w).1 hw⟩) (fun _ w hw=>(hs w).2 hw) (fun _=>h)
theorem V.any {ι:Type} {Si:ι->Y->Prop} (hs:∀ w,S w->∃ x,Si x w) (h:∀ x,V P Fz Qr n ds k (Si x) l):V P Fz Qr n ds k S l:=fun a w ha hw=>let ⟨x,hx⟩:=hs w hw;h x a w ha hx
end
end
section
def Tr.kd:Tr->Int
 | .mk k _ _ _ _=>k
def Tr.nm0:Tr->ByteArray
 | .mk _ nm _ _ _=>nm
theorem Cm.loc {w w':Y} {Fz:Nat->Prop} {t:Tr} {vs:List Value} (x:Cm w Fz t vs) (h:∀ b,Fz b->w'.heap[b]? =w.heap[b]?):Cm w' Fz t vs:=Cm.to (fun b o u hb hu=>⟨(World.cell?_of_block (w:=w) (a:=⟨b,o,O⟩) (h b hb)).trans hu,hb⟩) t vs x
def Aq (vs:List Value) (t:Tr):Aj:=⟨fun Fz w=>Cm w Fz t vs,fun Fz w w' h x=>x.loc h⟩
theorem Cm.form {w:Y} {S:Nat->Prop} {k:Int} {nm:ByteArray} {x:Sc} {ks:List Sc} {ts:List Tr} {vs:List Value} (h:Cm w S (.mk k nm x ks ts) vs):∃ (KA:Option Addr) (kc:Nat) (A:Option Addr) (c:Nat),vs=[I J k,Q nm,I J x.kind,I J x.num,Q x.str,Z KA ks.length kc,Z A ts.length c]:=by
 unfold Cm at h;obtain⟨KA,kc,A,c,e,_⟩:=h;exact⟨KA,kc,A,c,e⟩
theorem Cm.len {w:Y} {S:Nat->Prop} {t:Tr} {vs:List Value} (h:Cm w S t vs):vs.length=7/\vs.all Value.oneCell'=true:=by
 cases t
 obtain⟨KA,kc,A,c,rfl⟩:=h.form;exact⟨rfl,rfl⟩
theorem TsV.of_get {w:Y} {S:Nat->Prop} {A:Option Addr}:∀ {ts:List Tr} {i:Nat},(∀ (k:Nat) (t:Tr),ts[k]? =F t->∃ (b o:Nat) (us:List Value),A=F ⟨b,o,O⟩/\S b/\Cs w b (o+(i+k)*7) us/\Cm w S t us)->Cm.TsV w S A i ts
 | [],i,_=>by unfold Cm.TsV;trivial
 | t::r,i,h=>by
  unfold Cm.TsV;refine⟨h 0 t rfl,TsV.of_get fun k t hk=>?_⟩;have:=h (k+1) t hk
  rwa [show i+(k+1)=i+1+k by omega] at this
abbrev TY:=Int×ByteArray×Sc×(Option Addr×Nat×Nat)×(Option Addr×Nat×Nat)
def As (y:TY):List Value:=[I J y.1,Q y.2.1,I J y.2.2.1.kind,I J y.2.2.1.num,Q y.2.2.1.str,Z y.2.2.2.1.1 y.2.2.2.1.2.1 y.2.2.2.1.2.2,Z y.2.2.2.2.1 y.2.2.2.2.2.1 y.2.2.2.2.2.2]
theorem Cm.y {w:Y} {S:Nat->Prop}:∀ {t:Tr} {vs:List Value},Cm w S t vs->∃ y:TY,vs=As y/\y.1=t.kd/\y.2.1=t.nm0
 | .mk k nm x ks ts,vs,h=>by
  obtain⟨KA,kc,A,c,rfl⟩:=h.form;exact⟨(k,nm,x,(KA,ks.length,kc),(A,ts.length,c)),rfl,rfl,rfl⟩
def BE:List Tr->List (List Value)->List Aj
 | t::r,vs::us=>Aq vs t::BE r us
 | _,_=>[]
theorem FT:∀ (ts:List Tr) (us:List (List Value)) (t:Tr) (vs:List Value),us.length=ts.length->BE (ts++[t]) (us++[vs])=BE ts us++[Aq vs t]
 | [],[],t,vs,_=>rfl
 | y::r,u::q,t,vs,h=>by
  have:=FT r q t vs (by simpa using h);simp only[List.cons_append,BE,this]
 | [],_::_,t,vs,h=>by cases h
 | _::_,[],t,vs,h=>by cases h
theorem LO {w:Y}:∀ {ts:List Tr} {us:List (List Value)} {j:Nat} {t:Tr} {vs:List Value} {G:Nat->Prop},Bm (BE ts us) w G->ts[j]? =F t->us[j]? =F vs->∃ Fz:Nat->Prop,(∀ b,Fz b->G b)/\Cm w Fz t vs
 | y::r,u::q,0,t,vs,G,h,hx,hp=>by
  cases hx;cases hp
  obtain⟨Fz,h1,h2,_⟩:=h;exact⟨Fz,h2,h1⟩
 | y::r,u::q,j+1,t,vs,G,h,hx,hp=>by
  obtain⟨Fz,h1,h2,h3⟩:=h;obtain⟨F4,b1,b2⟩:=LO h3 (j:=j) hx hp;exact⟨F4,fun b hb=>(b1 b hb).1,b2⟩
 | [],_,j,t,vs,G,h,hx,hp=>by cases hx
 | _::_,[],j,t,vs,G,h,hx,hp=>by cases hp
theorem Aff:∀ (us:List (List Value)) (j:Nat) (vs:List Value),(∀ u∈us,u.length=7)->us[j]? =F vs->us.flatten.drop (j*7)=vs++(us.drop (j+1)).flatten
 | u::q,0,vs,h,hj=>by cases hj;rfl
 | u::q,j+1,vs,h,hj=>by
  have:=Aff q j vs (fun v hv=>h v (by simp[hv])) hj;rw[List.flatten_cons,show(j+1)*7=7+j*7 by omega,<- List.drop_drop,List.drop_left' (h u (by simp)),this];rfl
 | [],j,vs,h,hj=>by cases hj
theorem N6 (us:List (List Value)) (h:∀ u∈us,u.length=7):us.flatten.length=us.length*7:=by
 induction us with
 | nil=>rfl
 | cons u q ih=>rw[List.flatten_cons,List.length_append,ih (fun v hv=>h v (by simp[hv])),h u (by simp),List.length_cons];omega
theorem Cm.more {w:Y} {Fz G:Nat->Prop} {t:Tr} {vs:List Value} (h:Cm w Fz t vs) (hs:∀ b,Fz b->G b):Cm w G t vs:=Cm.to (fun b o u hb hu=>⟨hu,hs b hb⟩) t vs h
theorem Fk.more {w:Y} {Fz G:Nat->Prop} {A:Option Addr} {ks:List Sc} (h:Fk w Fz A ks) (hs:∀ b,Fz b->G b):Fk w G A ks:=h.to fun b o u hb hu=>⟨hu,hs b hb⟩
theorem U3 {tt:TypeId} {w:Y} {Fz:Nat->Prop} {k:Int} {nm:ByteArray} {x:Sc} {ks:List Sc} {ts:List Tr} {kv v:Value} {us:List (List Value)} (hl:us.length=ts.length) (h:Bm [K4 kv ks,Af tt 7 v ts.length us.flatten,star (BE ts us)] w Fz):
  Cm w Fz (.mk k nm x ks ts) [I J k,Q nm,I J x.kind,I J x.num,Q x.str,kv,v]:=by
 obtain⟨F1,⟨KA,kc,rfl,hk⟩,s1,F2,ho,s2,F3,ht,s3,_⟩:=h;unfold Cm;have hv:(v=Z O 0 0/\ts.length=0)\/∃ g c,v=Z (F ⟨g,0,O⟩) ts.length c/\F2 g:=by
  rcases ho.1.2 with h0 | ⟨g,c,cur,e,_⟩
  ·exact .inl h0
  ·exact .inr ⟨g,c,e,ho.2 g (by rw[e];rfl)⟩
 rcases hv with ⟨rfl,h0⟩ | ⟨g,c,rfl,hg⟩
 ·refine⟨KA,kc,O,0,by rw[h0],hk.more s1,?_⟩;have:ts=[]:=List.eq_nil_of_length_eq_zero h0;subst this;unfold Cm.TsV;trivial
 ·refine⟨KA,kc,_,c,rfl,hk.more s1,TsV.of_get fun j t hj=>?_⟩;have hlt:=(List.getElem?_eq_some_iff.1 hj).1;have h7:∀ u∈us,u.length=7:=fun u hu=>by
   obtain⟨i,hi,rfl⟩:=List.getElem_of_mem hu;obtain⟨G,_,h1⟩:=LO (show Bm (BE ts us) w F3 from ht) (List.getElem?_eq_getElem (by omega:i<ts.length)) (List.getElem?_eq_getElem hi);exact h1.len.1
  obtain⟨vs,hvs⟩:∃ vs,us[j]? =F vs:=⟨_,List.getElem?_eq_getElem (by omega)⟩
  obtain⟨G,g1,g2⟩:=LO (show Bm (BE ts us) w F3 from ht) hj hvs;have hc:=(Af.cs ho).drop (j*7);rw[Aff us j vs h7 hvs] at hc;refine⟨g,0,vs,rfl,(s2 g hg).1,fun i u hu=>?_,g2.more fun b hb=>(s3 b (g1 b hb)).1.1⟩;have:=hc i u (by rw[List.getElem?_append_left (List.getElem?_eq_some_iff.1 hu).1];exact hu)
  rwa [show 0+(0+j)*7=0+j*7 by omega]
theorem EF {tt:TypeId} {C:Nat->Prop} {w0 w:Y} {Z0:List Aj} {k:Int} {nm:ByteArray} {x:Sc} {ks:List Sc} {ts:List Tr} {kv v:Value} {us:List (List Value)} (hl:us.length=ts.length) (h:Mem C w0 (K4 kv ks::Af tt 7 v ts.length us.flatten::star (BE ts us)::Z0) w):
  Mem C w0 (Aq [I J k,Q nm,I J x.kind,I J x.num,Q x.str,kv,v] (.mk k nm x ks ts)::Z0) w:=by
 have h9:=Mem.toStar (B:=[K4 kv ks,Af tt 7 v ts.length us.flatten,star (BE ts us)]) h;exact⟨h9.1,h9.2.as fun Fz w hs=>U3 hl hs⟩
theorem Aq.named {C:Nat->Prop} {w0 w:Y} {Z0:List Aj} {k:Int} {nm nm2:ByteArray} {x:Sc} {ks:List Sc} {ts:List Tr} {a b c d e f:Value} (h:Mem C w0 (Aq [a,Q nm,b,c,d,e,f] (.mk k nm x ks ts)::Z0) w):Mem C w0 (Aq [a,Q nm2,b,c,d,e,f] (.mk k nm2 x ks ts)::Z0) w:=
 ⟨h.1,h.2.as fun Fz w hs=>by
  have hs:Cm w Fz (.mk k nm x ks ts) [a,Q nm,b,c,d,e,f]:=hs;show Cm w Fz (.mk k nm2 x ks ts) [a,Q nm2,b,c,d,e,f];unfold Cm at hs |-;obtain⟨KA,kc,A,c,e,h1,h2⟩:=hs;injection e with e0 e;injection e with e1 e;injection e with e2 e;injection e with e3 e;injection e with e4 e;injection e with e5 e;injection e with e6 _;exact⟨KA,kc,A,c,by rw[e0,e2,e3,e4,e5,e6],h1,h2⟩⟩
end
section
theorem CR.fr {w w':Y} {v:Value} {ts:List Sc} (h:CR w' w.heap.size v ts) (hb:Below w.heap.size w w'):Fr w w' [K4 v ts]:=by
 refine⟨hb,fun b=>v.ownBlock=F b,Af.ks (e:=144) ⟨h.less (Nat.zero_le _),fun b hb=>hb⟩,fun b hb=>?_,trivial⟩;obtain⟨h1,cur,hc⟩:=h.row hb;exact⟨h1,(Gl hc)⟩
theorem Fk.scIn {w:Y} {S:Nat->Prop} {A:Option Addr} {c:Nat} {ks:List Sc} (h:Fk w S A ks):MP w (Z A ks.length c) ks:=
 ⟨A,c,rfl,fun k hk=>by
  obtain⟨b,o,e,_,hc⟩:=h k _ (List.getElem?_eq_getElem hk);have hg:ks.getD k A4=ks[k]:=by rw[List.getD,List.getElem?_eq_getElem hk];rfl
  rw[hg];have h0:=hc 0 _ rfl;exact⟨b,o,e,FV h0,h0,hc 1 _ rfl,hc 2 _ rfl⟩⟩
end
section
set_option maxRecDepth 100000
theorem Cs.at {w:Y} {b o k:Nat} {v:Value} {vs:List Value} (h:Cs w b o vs) (hk:vs[k]? =F v):Cs w b (o+k*1) [v]:=fun j u hj=>by
 match j,hj with
 | 0,hj=>cases hj;rw[Nat.mul_one];exact h k v hk
def T0 (x:Bool) (bs:List Bool):Int:=match bs.findIdx? (·==x) with
 | some k=>k
 | none=> -1
theorem Z9 {x:Bool} {bs:List Bool} {k:Nat} (h:bs[k]? =F x) (hne:∀ j,j<k->bs[j]? ≠F x):T0 x bs=k:=by
 have:bs.findIdx? (·==x)=F k:=by
  obtain⟨hlt,hk⟩:=List.getElem?_eq_some_iff.1 h;rw[List.findIdx?_eq_some_iff_getElem];refine⟨hlt,by simp[hk],fun j hj=>?_⟩;have:=hne j hj;rw[List.getElem?_eq_getElem (by omega)] at this;simpa using fun e=>this (by rw[e])
 unfold T0;rw[this]
theorem Wr {x:Bool} {bs:List Bool} (hne:∀ j,j<bs.length->bs[j]? ≠F x):T0 x bs= -1:=by
 have:bs.findIdx? (·==x)=O:=by
  rw[List.findIdx?_eq_none_iff];intro y hy;obtain⟨j,hj,rfl⟩:=List.getElem_of_mem hy;have:=hne j hj;rw[List.getElem?_eq_getElem hj] at this;simpa using fun e=>this (by rw[e])
 unfold T0;rw[this]
theorem S3 (b o c:Nat) (bs:List Bool) (x:Bool) (w:Y) (h:Cs w b o (bs.map .bool)) (hn:bs.length<=1000):
  Calls Tryz.prog 214 #[Z (F ⟨b,o,O⟩) bs.length c,.bool x] w fun e w'=>e=.returned (I J (T0 x bs))/\Below w.heap.size w w':=by
 refine V.enter _ Tryz.func214 (Mem.start (C:=Ao) w) ?_
 repeat refine W ?_
 refine V.loop (fun k=>k<=bs.length/\∀ j,j<k->bs[j]? ≠F x) (fun _=>Mem Ao w []) (fun k=>[(8,I J k),(7,I J bs.length),(0,Z (F ⟨b,o,O⟩) bs.length c),(1,.bool x)]) (bs.length - ·) 0 ⟨by omega,fun j hj=>by omega⟩ (fun w h=>h) ⟨rfl,rfl,rfl,rfl,trivial⟩ ?_;rintro k ⟨hk,hne⟩
 repeat refine W ?_
 refine V.ifp (fun hlt=>?_) (fun hge=>?_)
 ·have hlt:k<bs.length:=by omega
  obtain⟨y,hy⟩:∃ y,bs[k]? =F y:=⟨_,List.getElem?_eq_getElem hlt⟩
  have hc:=h.at (k:=k) (v:=.bool y) (by simp[hy])
  repeat refine W ?_
  refine R.ix hlt ?_;refine R.lo 0 hc ?_
  repeat refine W ?_
  refine V.if (fun he=>?_) (fun he=>?_)
  ·repeat refine W ?_
   refine V.end fun w' h'=>?_;exact⟨by rw[Z9 (k:=k) (by rw[hy];simp at he;rw[he]) hne];rfl,h'.1.below⟩
  ·repeat refine W ?_
   have hne':∀ j,j<k+1->bs[j]? ≠F x:=fun j hj=>by
    by_cases e:j=k
    ·subst e;rw[hy];simp at he;simpa[eq_comm] using he
    ·exact hne j (by omega)
   exact V.again (k+1) rfl ⟨hlt,hne'⟩
 ·repeat refine W ?_
  refine V.end fun w' h'=>?_;exact⟨by rw[Wr fun j hj=>hne j (by omega)];rfl,h'.1.below⟩
theorem ME (x:Bool) (bs:List Bool):bs.contains x=decide (0<=T0 x bs):=by
 unfold T0;cases h:bs.findIdx? (·==x) with
 | none=>
  rw[List.findIdx?_eq_none_iff] at h;have:¬x∈bs:=fun hx=>by have:=h x hx;simp at this
  simp[this]
 | some k=>
  obtain⟨hlt,hk,_⟩:=List.findIdx?_eq_some_iff_getElem.1 h;have:x∈bs:=by simp at hk;rw[<- hk];exact List.getElem_mem hlt
  simp[this]
theorem GX (b o c:Nat) (bs:List Bool) (x:Bool) (w:Y) (h:Cs w b o (bs.map .bool)) (hn:bs.length<=1000):
  Calls Tryz.prog 176 #[Z (F ⟨b,o,O⟩) bs.length c,.bool x] w fun e w'=>e=.returned (.bool (bs.contains x))/\Below w.heap.size w w':=by
 refine V.enter _ Tryz.func176 (Mem.start (C:=Ao) w) ?_
 repeat refine W ?_
 refine R.c (fun w' h'=>S3 b o c bs x w' (h'.1.cs h fun e=>e) hn) ?_
 repeat refine W ?_
 refine V.end fun w' h'=>?_;refine⟨?_,h'.1.below⟩;rw[ME];rfl
def Uj (bs:List Bool):Bool:= !bs.contains false
theorem Aj1 (a b:Bool):Uj [a,b]=(a&&b):=by cases a<;>cases b<;>rfl
theorem VJ (a b c:Bool):Uj [a,b,c]=(a&&b&&c):=by cases a<;>cases b<;>cases c<;>rfl
theorem Afx (a b c d:Bool):Uj [a,b,c,d]=(a&&b&&c&&d):=by cases a<;>cases b<;>cases c<;>cases d<;>rfl
theorem Ht (b o c:Nat) (bs:List Bool) (w:Y) (h:Cs w b o (bs.map .bool)) (hn:bs.length<=1000):
  Calls Tryz.prog 138 #[Z (F ⟨b,o,O⟩) bs.length c] w fun e w'=>e=.returned (.bool (Uj bs))/\Below w.heap.size w w':=by
 refine V.enter _ Tryz.func138 (Mem.start (C:=Ao) w) ?_
 repeat refine W ?_
 refine R.c (fun w' h'=>GX b o c bs false w' (h'.1.cs h fun e=>e) hn) ?_
 repeat refine W ?_
 refine V.end fun w' h'=>?_;exact⟨by simp[one,Uj],h'.1.below⟩
end
section
set_option maxRecDepth 100000
def O3 {α:Type} (p:α->Bool) (l:List α):Int:=match l.findIdx? p with
 | some k=>k
 | none=> -1
theorem L0 {α:Type} {p:α->Bool} {l:List α} {k:Nat} {x:α} (h:l[k]? =F x) (hx:p x=true) (hne:∀ (j:Nat) (y:α),j<k->l[j]? =F y->p y=false):O3 p l=k:=by
 have:l.findIdx? p=F k:=by
  obtain⟨hlt,hk⟩:=List.getElem?_eq_some_iff.1 h;rw[List.findIdx?_eq_some_iff_getElem];exact⟨hlt,by rw[hk];exact hx,fun j hj=>by rw[hne j _ hj (List.getElem?_eq_getElem (by omega))];decide⟩
 unfold O3;rw[this]
theorem Jt {α:Type} {p:α->Bool} {l:List α} (hne:∀ (j:Nat) (y:α),l[j]? =F y->p y=false):O3 p l= -1:=by
 have:l.findIdx? p=O:=by
  rw[List.findIdx?_eq_none_iff];intro y hy;obtain⟨j,hj,rfl⟩:=List.getElem_of_mem hy;exact hne j _ (List.getElem?_eq_getElem hj)
 unfold O3;rw[this]
theorem Le {α:Type} (p:α->Bool) (l:List α):decide (0<=O3 p l)=l.any p:=by
 unfold O3;cases h:l.findIdx? p with
 | none=>
  rw[List.findIdx?_eq_none_iff] at h;have:l.any p=false:=by rw[List.any_eq_false];intro x hx;rw[h x hx];decide
  rw[this];rfl
 | some k=>
  obtain⟨hlt,hk,_⟩:=List.findIdx?_eq_some_iff_getElem.1 h;have:l.any p=true:=List.any_eq_true.2 ⟨_,List.getElem_mem hlt,hk⟩;rw[this];simp
def A7 (f:FuncId) (p:Sc->Bool) (x:Sc) (w:Y):Prop:=∀ W,Below w.heap.size w W->Calls Tryz.prog f #[Di x] W fun e w'=>e=.returned (.bool (p x))/\Below W.heap.size W w'
theorem A7.to {f:FuncId} {p:Sc->Bool} {x:Sc} {w w':Y} (h:A7 f p x w) (hb:Below w.heap.size w w'):A7 f p x w':=fun W hW=>h W (hb.trans (hW.mono hb.size))
theorem Ru (S:Nat->Prop) (A:Option Addr) (c:Nat) (ks:List Sc) (f:FuncId) (p:Sc->Bool) (w:Y) (h:Fk w S A ks) (hp:∀ x∈ks,A7 f p x w) (hn:ks.length<=1000000) (hf:∀ args w,(callFunc f args).run Tryz.prog w=.ok (.enter f args) w):
  Calls Tryz.prog 216 #[Z A ks.length c,.func (.func f) #[] #[]] w fun e w'=>e=.returned (I J (O3 p ks))/\Below w.heap.size w w':=by
 refine V.enter _ Tryz.func216 (Mem.start (C:=Ao) w) ?_
 repeat refine W ?_
 refine V.loop (fun k=>k<=ks.length/\∀ j y,j<k->ks[j]? =F y->p y=false) (fun _=>Mem Ao w []) (fun k=>[(8,I J k),(7,I J ks.length),(0,Z A ks.length c),(1,.func (.func f) #[] #[])]) (ks.length - ·) 0 ⟨by omega,fun j y hj=>by omega⟩ (fun w h=>h) ⟨rfl,rfl,rfl,rfl,trivial⟩ ?_;rintro k ⟨hk,hne⟩
 repeat refine W ?_
 refine V.ifp (fun hlt=>?_) (fun hge=>?_)
 ·have hlt:k<ks.length:=by omega
  obtain⟨x,hx⟩:∃ x,ks[k]? =F x:=⟨_,List.getElem?_eq_getElem hlt⟩
  obtain⟨b,o,rfl,_,hc⟩:=h k x hx
  repeat refine W ?_
  refine R.ix hlt ?_;refine R.lo 0 hc ?_;refine R.c (fun w' h'=>hp x (List.mem_of_getElem? hx) w' h'.1.below) ?_ (hr:=hf)
  repeat refine W ?_
  refine V.if (fun he=>?_) (fun he=>?_)
  ·repeat refine W ?_
   refine V.end fun w' h'=>?_;exact⟨by rw[L0 hx he hne];rfl,h'.1.below⟩
  ·repeat refine W ?_
   have hne':∀ j y,j<k+1->ks[j]? =F y->p y=false:=fun j y hj hy=>by
    by_cases e:j=k
    ·subst e;rw[hx] at hy;cases hy;exact he
    ·exact hne j y (by omega) hy
   exact V.again (k+1) rfl ⟨hlt,hne'⟩
 ·repeat refine W ?_
  refine V.end fun w' h'=>?_;exact⟨by rw[Jt fun j y hy=>hne j y (by have:=(List.getElem?_eq_some_iff.1 hy).1;omega) hy];rfl,h'.1.below⟩
theorem Gx (S:Nat->Prop) (A:Option Addr) (c:Nat) (ks:List Sc) (f:FuncId) (p:Sc->Bool) (w:Y) (h:Fk w S A ks) (hp:∀ x∈ks,A7 f p x w) (hn:ks.length<=1000000) (hf:∀ args w,(callFunc f args).run Tryz.prog w=.ok (.enter f args) w):
  Calls Tryz.prog 180 #[Z A ks.length c,.func (.func f) #[] #[]] w fun e w'=>e=.returned (.bool (ks.any p))/\Below w.heap.size w w':=by
 refine V.enter _ Tryz.func180 (Mem.start (C:=Ao) w) ?_
 repeat refine W ?_
 refine R.c (fun w' h'=>Ru S A c ks f p w' (h.to fun b o v hb hv=>⟨h'.1.cell hv (fun e=>e),hb⟩) (fun x hx=>(hp x hx).to h'.1.below) hn hf) ?_
 repeat refine W ?_
 refine V.end fun w' h'=>?_;exact⟨by rw[<- Le];rfl,h'.1.below⟩
theorem OK (rt:Sc->Bool) (x:Sc) (w:Y) (hR:A7 139 rt x w):A7 260 (fun x=> !rt x) x w:=by
 intro w1 hw1;refine V.enter _ Tryz.func260 (Mem.start (C:=Ao) w1) ?_
 repeat (first | refine W ?_ | refine R.new fun _ _=>?_)
 refine R.c (fun w' h'=>hR w' (hw1.trans (h'.1.below.mono hw1.size))) ?_
 repeat refine W ?_
 refine V.end fun w' h'=>?_;exact⟨rfl,h'.1.below⟩
end
section
set_option maxRecDepth 100000
def LQ (f:FuncId) (caps:List Value) (p:Int->Bool) (i:Int) (w:Y):Prop:=∀ w1,Below w.heap.size w w1->Calls Tryz.prog f (Value.int .i64 i::caps).toArray w1 fun e w'=>e=.returned (.bool (p i))/\Below w1.heap.size w1 w'
theorem LQ.to {f:FuncId} {caps:List Value} {p:Int->Bool} {x:Int} {w w':Y} (h:LQ f caps p x w) (hb:Below w.heap.size w w'):LQ f caps p x w':=fun w1 hW=>h w1 (hb.trans (hW.mono hb.size))
theorem Ug (S:Nat->Prop) (A:Option Addr) (c:Nat) (is:List Int) (f:FuncId) (caps:List Value) (p:Int->Bool) (w:Y) (h:GT w S A is) (hp:∀ x∈is,LQ f caps p x w) (hn:is.length<=1000000) (hf:∀ args w,(callFunc f args).run Tryz.prog w=.ok (.enter f args) w):
  Calls Tryz.prog 215 #[Z A is.length c,.func (.func f) #[] caps.toArray] w fun e w'=>e=.returned (I J (O3 p is))/\Below w.heap.size w w':=by
 refine V.enter _ Tryz.func215 (Mem.start (C:=Ao) w) ?_
 repeat refine W ?_
 refine V.loop (fun k=>k<=is.length/\∀ (j:Nat) y,j<k->is[j]? =F y->p y=false) (fun _=>Mem Ao w []) (fun k=>[(8,I J k),(7,I J is.length),(0,Z A is.length c),(1,.func (.func f) #[] caps.toArray)]) (is.length - ·) 0 ⟨by omega,fun j y hj=>by omega⟩ (fun w h=>h) ⟨rfl,rfl,rfl,rfl,trivial⟩ ?_;rintro k ⟨hk,hne⟩
 repeat refine W ?_
 refine V.ifp (fun hlt=>?_) (fun hge=>?_)
 ·have hlt:k<is.length:=by omega
  obtain⟨x,hx⟩:∃ x,is[k]? =F x:=⟨_,List.getElem?_eq_getElem hlt⟩
  obtain⟨b,o,rfl,_,hc⟩:=h k x hx
  repeat refine W ?_
  refine R.ix hlt ?_;refine R.lo 0 hc ?_;refine R.c (fun w' h'=>hp x (List.mem_of_getElem? hx) w' h'.1.below) ?_ (hr:=hf)
  repeat refine W ?_
  refine V.if (fun he=>?_) (fun he=>?_)
  ·repeat refine W ?_
   refine V.end fun w' h'=>?_;exact⟨by rw[L0 hx he hne];rfl,h'.1.below⟩
  ·repeat refine W ?_
   have hne':∀ (j:Nat) y,j<k+1->is[j]? =F y->p y=false:=fun j y hj hy=>by
    by_cases e:j=k
    ·subst e;rw[hx] at hy;cases hy;exact he
    ·exact hne j y (by omega) hy
   exact V.again (k+1) rfl ⟨hlt,hne'⟩
 ·repeat refine W ?_
  refine V.end fun w' h'=>?_;exact⟨by rw[Jt fun j y hy=>hne j y (by have:=(List.getElem?_eq_some_iff.1 hy).1;omega) hy];rfl,h'.1.below⟩
theorem MV (S:Nat->Prop) (A:Option Addr) (c:Nat) (is:List Int) (f:FuncId) (caps:List Value) (p:Int->Bool) (w:Y) (h:GT w S A is) (hp:∀ x∈is,LQ f caps p x w) (hn:is.length<=1000000) (hf:∀ args w,(callFunc f args).run Tryz.prog w=.ok (.enter f args) w):
  Calls Tryz.prog 178 #[Z A is.length c,.func (.func f) #[] caps.toArray] w fun e w'=>e=.returned (.bool (is.any p))/\Below w.heap.size w w':=by
 refine V.enter _ Tryz.func178 (Mem.start (C:=Ao) w) ?_
 repeat refine W ?_
 refine R.c (fun w' h'=>Ug S A c is f caps p w' (h.to fun b o v hb hv=>⟨h'.1.cell hv (fun e=>e),hb⟩) (fun x hx=>(hp x hx).to h'.1.below) hn hf) ?_
 repeat refine W ?_
 refine V.end fun w' h'=>?_;exact⟨by rw[<- Le];rfl,h'.1.below⟩
end
section
section
variable {P:Program} {n:Nat} {ds:List Deferred} {d:Bool} {ops:Array Oper} {K:Act->Y->Prop} {i:Nat} {pl pend pend':List Nat} {l:Env}
 {t:Nat} {ty:TypeId} {ps:String} {af:Array Edge} {gd:Option (Nat×Bool)} {C:Nat->Prop} {w0:Y} {A:List Aj}
theorem R.xe {ι:Type} {v:ι->Value} {A':ι->List Aj} {op:Op} {vs:List Value} (hv:∀ ρ w,EV ρ op.operands.toList vs->Mem C w0 A w->∃ x w',(execOp ρ ⟨F t,op,ty,ps,af,gd⟩).run P w=.ok (.value (v x)) w'/\Mem C w0 (A' x) w') (h:∀ x,Rj P n ds d ops K pl pend' (Mem C w0 (A' x)) ((t,v x)::l))
  (ho:Aw ops.toList i=F ⟨F t,op,ty,ps,af,gd⟩:=by rfl) (hg:Cv ops.toList l gd=F true:=by rfl) (hs:evs l op.operands.toList=F vs:=by rfl) (hq:quiet P op=false:=by first | rfl | kernel_rfl)
  (hp:Sq d ops i pend pend' (fun x=>Mem C w0 (A' x)) (Mem C w0 A):=by first | exact .inl ⟨rfl,rfl⟩ | exact .inr (.inl ⟨rfl,rfl⟩) | exact .inr (.inr ⟨rfl,fun _ _ h=>h⟩) | exact .inr (.inr ⟨rfl,fun _ _ h=>h.sub (List.sublist_cons_self ..)⟩)):Rj P n ds d ops K (i::pl) pend (Mem C w0 A) l:=
 R.eff (Si:=fun x=>Mem C w0 (A' x)) (li:=fun x=>(t,v x)::l) ho hg hq (fun a w K' ha hd hw hk=>by
  obtain⟨x,w',h1,h2⟩:=hv a.eval w (ha.evs _ _ hs).1 hw;unfold Eo;rw[h1];exact hk x _ _ h2 (hd _)) hp h
theorem R.xp {v:Value} {op:Op} {vs:List Value} (hv:∀ ρ w,EV ρ op.operands.toList vs->Mem C w0 A w->(execOp ρ ⟨F t,op,ty,ps,af,gd⟩).run P w=.ok (.value v) w) (h:Rj P n ds d ops K pl pend (Mem C w0 A) ((t,v)::l))
  (ho:Aw ops.toList i=F ⟨F t,op,ty,ps,af,gd⟩:=by rfl) (hg:Cv ops.toList l gd=F true:=by rfl) (hs:evs l op.operands.toList=F vs:=by rfl) (hq:quiet P op=false:=by first | rfl | kernel_rfl):Rj P n ds d ops K (i::pl) pend (Mem C w0 A) l:=
 R.xe (ι:=Unit) (v:=fun _=>v) (A':=fun _=>A) (fun ρ w ha hm=>⟨(),w,hv ρ w ha hm,hm⟩) (fun _=>h) ho hg hs hq (.inr (.inr ⟨rfl,fun _ _ h=>h⟩))
theorem R.xn {op:Op} {v:Nat->Value} {vs cs:List Value} {bt:TypeId} (hv:∀ ρ w,EV ρ op.operands.toList vs->(execOp ρ ⟨F t,op,ty,ps,af,gd⟩).run P w=.ok (.value (v w.heap.size)) (w.alloc (.cells cs.toArray bt))) (h:∀ b,w0.heap.size<=b->Rj P n ds d ops K pl pend (Mem C w0 (blk b cs bt::A)) ((t,v b)::l))
  (ho:Aw ops.toList i=F ⟨F t,op,ty,ps,af,gd⟩:=by rfl) (hg:Cv ops.toList l gd=F true:=by rfl) (hs:evs l op.operands.toList=F vs:=by rfl) (hq:quiet P op=false:=by first | rfl | kernel_rfl):Rj P n ds d ops K (i::pl) pend (Mem C w0 A) l:=
 R.xe (ι:={b:Nat // w0.heap.size<=b}) (v:=fun b=>v b.1) (A':=fun b=>blk b.1 cs bt::A) (fun ρ w ha hm=>⟨⟨w.heap.size,hm.1.size⟩,_,hv ρ w ha,hm.alloc cs bt⟩) (fun x=>h x.1 x.2) ho hg hs hq (.inr (.inr ⟨rfl,fun _ _ h=>h.sub (List.sublist_cons_self ..)⟩))
theorem AI.less {C C':Nat->Prop} {w w':Y} (h:AI C w w') (hc:∀ b,C b->C' b):AI C' w w':=h.sub fun b _ hb=>hc b hb
theorem B9.blk {ι:Type} {f:FuncId} {aq:Array Value} {w:Y} {b:Nat} {cs:List Value} {bt:TypeId} {v:ι->Value} {cs':ι->List Value} (h:w.heap[b]? =F (.cells cs.toArray bt)->Calls P f aq w fun e w'=>∃ x,e=.returned (v x)/\AI (fun k=>k=b) w w'/\w'.heap[b]? =F (.cells (cs' x).toArray bt)):
  B9 P f aq w (Go.Proofs.YtdpppepmkeinaaaGreatDoor.blk b cs bt) v (fun x=>Go.Proofs.YtdpppepmkeinaaaGreatDoor.blk b (cs' x) bt):=fun Fz hX hF=>
 (h hX.2).mono fun e w' ⟨x,he,hx,hb⟩=>⟨x,he,Fz,hx.less (fun k e=>by subst e;exact hX.1),fun k hk=>⟨Nat.lt_of_lt_of_le (hF k hk) hx.size,.inl hk⟩,hX.1,hb⟩
end
end
end Go.Proofs.YtdpppepmkeinaaaGreatDoor
