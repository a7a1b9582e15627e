/- What is proved: a part of the walk of the program and of its plain laws; no condition beside those that each theorem names. -/
import Derived.Test.YtdpppepmkeinaaaGreatDoorYu
import Derived.Test.YtdpppepmkeinaaaGreatDoorYl
import Derived.Test.YtdpppepmkeinaaaGreatDoorYa
namespace Go.Proofs.YtdpppepmkeinaaaGreatDoor
open Go Go.RowKit Go.Lib
open Go.Value renaming int->I,string->Q,slice->Z
open Go.IntKind renaming i64->J
open Option renaming none->O,some->F
open _root_.Go renaming World->Y
set_option linter.unusedSimpArgs false
set_option linter.unusedVariables false
set_option linter.unusedSectionVars false
section
section
variable {C:Nat->Prop} {w0 w:Y} {A Z0:List Aw} {X:Aw}
theorem Mem.own (h:Mem C w0 A w) (hk:Pk X A Z0):∃ Fz:Nat->Prop,X.is Fz w/\(∀ b,Fz b->b<w.heap.size/\(w0.heap.size<=b\/C b))∧
  ∀ (X':Aw) (F':Nat->Prop) (w':Y),X'.is F' w'->B4 Fz w w'->(∀ b,F' b->b<w'.heap.size/\(Fz b\/w.heap.size<=b))->Mem C w0 (X'::Z0) w':=by
 obtain⟨he,Fz,h1,h2,h3⟩:=h.pk hk;refine⟨Fz,h1,h2,fun X' F' w' k1 k2 k3=>⟨he.trans k2 (fun x hx hf=>?_),F',k1,fun b hb=>⟨(k3 b hb).1,(k3 b hb).2.elim (fun h=>(h2 b h).2) (fun h=>.inl (Nat.le_trans he.size h))⟩,
  h3.mono (fun b hb=>⟨⟨Nat.lt_of_lt_of_le hb.1.1 k2.size,hb.1.2⟩,fun hf=>(k3 b hf).2.elim hb.2 (fun h=>by have:=hb.1.1;omega)⟩) (fun b hb=>k2.block b hb.1.1 hb.2)⟩⟩
 rcases(h2 x hf).2 with h | h
 ·omega
 ·exact h
def Ex {ι:Type} (P:Program) (f:FuncId) (aq:Array Value) (w:Y) (X:Aw) (v:ι->Value) (X':ι->Aw):Prop:=
 ∀ Fz:Nat->Prop,X.is Fz w->(∀ b,Fz b->b<w.heap.size)->Calls P f aq w fun e w'=>∃ x,e=.returned (v x)/\∃ F':Nat->Prop,B4 Fz w w'/\(∀ b,F' b->b<w'.heap.size/\(Fz b\/w.heap.size<=b))/\(X' x).is F' w'
theorem Mem.startX {Fz:Nat->Prop} (hX:X.is Fz w) (hF:∀ b,Fz b->b<w.heap.size):Mem Fz w [X] w:=⟨B4.refl _ _,Fz,hX,fun b hb=>⟨hF b hb,.inr hb⟩,trivial⟩
theorem Mem.toW {Fz:Nat->Prop} {w':Y} {X':Aw} (h:Mem Fz w [X'] w'):∃ F':Nat->Prop,B4 Fz w w'/\(∀ b,F' b->b<w'.heap.size/\(Fz b\/w.heap.size<=b))/\X'.is F' w':=
 let ⟨he,F',h1,h2,_⟩:=h;⟨F',he,fun b hb=>⟨(h2 b hb).1,(h2 b hb).2.symm⟩,h1⟩
end
section
variable {P:Program} {Fz:Fence} {Qr:Exit->Act->Y->Prop} {n:Nat} {ds:List Deferred} {k:List KL} {d:Bool} {ops:Array Oper} {K:Act->Y->Prop} {i:Nat} {pl pend pend':List Nat} {l l':Env}
 {t:Nat} {ty:TypeId} {ps:String} {af:Array Edge} {gd:Option (Nat×Bool)} {C:Nat->Prop} {w0:Y} {A A' Z0:List Aw} {S:Y->Prop}
theorem V.know {p:Prop} (hp:∀ w,S w->p) (h:p->V P Fz Qr n ds k S l):V P Fz Qr n ds k S l:=fun a w ha hw=>h (hp w hw) a w ha hw
theorem R.know {p:Prop} (hp:∀ w,S w->p) (h:p->Rj P n ds d ops K pl pend S l):Rj P n ds d ops K pl pend S l:=by
 intro hok;cases d with
 | false=>exact fun a w ha hw=>h (hp w hw) hok a w ha hw
 | true=>exact fun Rs hRs a w ha hw=>h (hp w hw) hok Rs hRs a w ha hw
theorem R.cw {ι:Type} {v:ι->Value} {X:Aw} {X':ι->Aw} {f:FuncId} {fn:Operand} {fs cs:Array Value} {args:List Operand} {ts:Array TypeId} {vs aq:List Value}
  (hc:∀ w,Mem C w0 A w->Ex P f aq.toArray w X v X') (h:∀ x,Rj P n ds d ops K pl pend' (Mem C w0 (X' x::Z0)) ((t,v x)::l)) (hk:Pk X A Z0:=by(repeat (first | exact Pk.hd | apply Pk.tl));first | done | fail)
  (ho:AQ ops.toList i=F ⟨F t,.call {callee:=.value fn,args:=args.toArray,argTypes:=ts},ty,ps,af,gd⟩:=by rfl) (hf:ev l fn=F (.func (.func f) fs cs):=by rfl) (hs:evs l args=F vs:=by rfl) (he:fs.toList++(vs++cs.toList)=aq:=by rfl) (hr:∀ args w,(callFunc f args).run P w=.ok (.enter f args) w:=by intro args w;simp;first | done | fail)
  (hp:Wq d ops i pend pend' (fun x=>Mem C w0 (X' x::Z0)) (Mem C w0 A):=by first | exact .inl ⟨rfl,rfl⟩ | exact .inr (.inl ⟨rfl,rfl⟩)) (hg:D0 ops.toList l gd=F true:=by rfl):Rj P n ds d ops K (i::pl) pend (Mem C w0 A) l:=
 R.cx (A':=fun x=>X' x::Z0) (fun w hw=>by
  obtain⟨Fz,h1,h2,h3⟩:=hw.own hk;exact(hc w hw Fz h1 (fun b hb=>(h2 b hb).1)).mono fun e w' ⟨x,he,F',hx,hf,hi⟩=>⟨x,he,h3 _ F' w' hi hx hf⟩) h ho hf hs he hr hp hg
theorem An.cs {e:TypeId} {sz m c b:Nat} {xs:List Value} {Fz:Nat->Prop} {w:Y} (h:(An e sz (Z (F ⟨b,0,O⟩) m c) m xs).is Fz w):Cs w b 0 xs:=fun j u hj=>by
 have:=World.ownsRow.cells h.1 (g:=b) rfl j u hj;have hadd:(⟨b,0,O⟩:Addr).add j=⟨b,0+j,O⟩:=by unfold Addr.add;split<;>simp_all
 rwa [hadd] at this
theorem Co {e:TypeId} {sz m:Nat} {v:Value} {xs:List Value} {w:Y} (h:Mem C w0 A w) (hm:An e sz v m xs∈A):(v=Z O 0 0/\m=0)\/∃ g c,v=Z (F ⟨g,0,O⟩) m c:=by
 obtain⟨Fz,⟨h1,_⟩,_⟩:=h.has hm;rcases h1.2 with h | ⟨g,cap,cur,hv,_⟩
 ·exact .inl h
 ·exact .inr ⟨g,cap,hv⟩
theorem R.lw {x:Operand} {tt e:TypeId} {b o c m sz gn:Nat} {g:Bool} {v:Value} {xs:List Value} (hv:ldV g m (xs.drop o)=F v) (h:Rj P n ds d ops K pl (i::pend) (Mem C w0 A) ((t,v)::l)) (ho:AQ ops.toList i=F ⟨F t,.load tt x,ty,ps,af,gd⟩:=by rfl)
  (hx:ev l x=F (.pointer (F ⟨b,o,O⟩)):=by rfl) (hb:An e sz (Z (F ⟨b,0,O⟩) gn c) gn xs∈A:=by(repeat (first | exact List.Mem.head _ | apply List.Mem.tail));first | done | fail) (ht:∀ w,(isAgg tt).run P w=.ok g w:=by intro w;simp;(try rfl);first | done | fail) (hs:∀ w,(sizeOf tt).run P w=.ok m w:=by intro w;simp;(try rfl);first | done | fail) (hg:D0 ops.toList l gd=F true:=by rfl):
  Rj P n ds d ops K (i::pl) pend (Mem C w0 A) l:=
 R.takeS ho hg rfl (fun a w ha hw=>run_load hx ha (by
  obtain⟨Fz,h1,_⟩:=hw.has hb;have:=(An.cs h1).drop o;rw[Nat.zero_add] at this;exact Hr this hv (ht w) (hs w))) h
theorem Il:∀ (xs:List Value) (o:Nat) (vs xs' ys:List Value),Bo xs o vs=F xs'->Bo (xs++ys) o vs=F (xs'++ys)
 | [],0,[],xs',ys,h=>by cases h;cases ys<;>rfl
 | x::xs,0,[],xs',ys,h=>by cases h;rfl
 | [],0,v::vs,xs',ys,h=>by cases h
 | [],o+1,vs,xs',ys,h=>by cases vs<;>cases h
 | x::xs,0,v::vs,xs',ys,h=>by
  unfold Bo at h;split at h
  ·rename_i r hr;cases h
   show(match Bo (xs++ys) 0 vs with | some r=>F (v::r) | none=>O)=_;rw[Il xs 0 vs r ys hr];rfl
  ·cases h
 | x::xs,o+1,vs,xs',ys,h=>by
  unfold Bo at h;split at h
  ·rename_i r hr;cases h
   show(match Bo (xs++ys) o vs with | some r=>F (x::r) | none=>O)=_;rw[Il xs o vs r ys hr];rfl
  ·cases h
theorem JQ:∀ (xs:List Value) (o:Nat) (vs xs':List Value),Bo xs o vs=F xs'->xs'.length=xs.length
 | l,0,[],xs',h=>by cases l<;>(cases h;rfl)
 | [],0,v::vs,xs',h=>by cases h
 | [],o+1,vs,xs',h=>by cases vs<;>cases h
 | x::xs,0,v::vs,xs',h=>by
  unfold Bo at h;split at h
  ·rename_i r hr;cases h;simp[JQ xs 0 vs r hr]
  ·cases h
 | x::xs,o+1,vs,xs',h=>by
  unfold Bo at h;split at h
  ·rename_i r hr;cases h;simp[JQ xs o vs r hr]
  ·cases h
theorem R.sw {x y:Operand} {tt e:TypeId} {b o c sz gn:Nat} {v:Value} {xs xs':List Value} (hv:Bo xs o v.cells.toList=F xs') (h:Rj P n ds d ops K pl pend' (Mem C w0 A') l) (ho:AQ ops.toList i=F ⟨O,.store tt x y,ty,ps,af,gd⟩:=by rfl) (hx:ev l x=F (.pointer (F ⟨b,o,O⟩)):=by rfl) (hy:ev l y=F v:=by rfl)
  (hr:E5 (An e sz (Z (F ⟨b,0,O⟩) gn c) gn xs) (An e sz (Z (F ⟨b,0,O⟩) gn c) gn xs') A A':=by(repeat (first | exact E5.hd | apply E5.tl));first | done | fail) (ho1:v.cells.toList.all Value.oneCell'=true:=by rfl) (hs:∀ w,(sizeOf tt).run P w=.ok v.cells.size w:=by intro w;simp;(try rfl);first | done | fail)
  (hp:Wq (ι:=Unit) d ops i pend pend' (fun _=>Mem C w0 A') (Mem C w0 A):=by first | exact .inl ⟨rfl,rfl⟩ | exact .inr (.inl ⟨rfl,rfl⟩)) (hg:D0 ops.toList l gd=F true:=by rfl):Rj P n ds d ops K (i::pl) pend (Mem C w0 A) l:=
 R.eff (ι:=Unit) (Si:=fun _=>Mem C w0 A') (li:=fun _=>l) ho hg rfl (fun a w K' ha hd hw hk=>by
  obtain⟨G,⟨⟨g1,g2⟩,g0⟩,g3,g4⟩:=hw.rep hr;rcases g2 with ⟨g2,_⟩ | ⟨g,cap,cur,hvv,q1,q2,q3,q4,q5,q6⟩
  ·cases g2
  cases hvv
  have hcur:cur.toList=xs++cur.toList.drop (gn*sz):=by rw[<- q6,List.take_append_drop]
  have hse:=Il xs o v.cells.toList xs' (cur.toList.drop (gn*sz)) hv;have hl:=JQ _ _ _ _ hv;obtain⟨w',k1,k2,k3,k4⟩:=Hp (P:=P) v.cells.toList 0 cur.toList _ w (by rw[Array.toArray_toList];exact q2) (by rw[hcur];exact hse) ho1;unfold FI;have:(execOp a.eval ⟨O,.store tt x y,ty,ps,af,gd⟩).run P w=.ok .skip w':=by
   simp only[execOp,ha.ev hx,ha.ev hy,Sem.run_bind,Instr.storeAt,Instr.sureAddr,storeVar]
   simp[Sem.run_bind,hs w,k1,pure,Sem.run]
  rw[this];refine hk () undef w' (g4 G w' ⟨⟨by rw[hl];exact g1,.inr ⟨b,c,_,rfl,q1,k2,q3,q4,?_,?_⟩⟩,g0⟩ (k3.sub (fun k _ e=>by subst e;exact g0 _ rfl)) (fun k hk=>⟨by rw[k4];exact(g3 k hk).1,.inl hk⟩)) ha
  ·have:=congrArg List.length hcur;rw[Array.length_toList,List.length_append] at this;rw[List.size_toArray,List.length_append,hl];omega
  ·rw[List.toList_toArray,List.take_append_of_le_length (by omega),List.take_of_length_le (by omega)]) hp (fun _=>h)
end
end
section
open Go Go.Lib
structure Gf where
 root:Int
 nodes:List Nd
def G8:Gf:=⟨0,[]⟩
def OU (x:Sc×Int):List (Sc×Int)->List (Sc×Int)
 | []=>[x]
 | y::r=>if DG y.1 x.1<=0 then y::OU x r else x::y::r
def Qm:List (Sc×Int)->List (Sc×Int)
 | []=>[]
 | x::r=>OU x (Qm r)
theorem JD (x:Sc×Int):∀ l,(OU x l).Perm (x::l)
 | []=>.refl _
 | y::r=>by
  unfold OU;split
  ·exact((JD x r).cons y).trans (.swap ..)
  ·exact .refl _
theorem Ef:∀ l,(Qm l).Perm l
 | []=>.refl _
 | x::r=>(JD x _).trans ((Ef r).cons x)
theorem Aha {x y z:Sc} (h1:DG x y<=0) (h2:DG y z<=0):DG x z<=0:=by
 rcases EX.rng x y with h | h | h
 ·rcases EX.rng y z with k | k | k
  ·rw[EX.tr _ _ _ h k];decide
  ·rw[<- (EX.eq y z).1 k,h];decide
  ·omega
 ·rw[(EX.eq x y).1 h];exact h2
 ·omega
theorem JX (x:Sc×Int):∀ l:List (Sc×Int),l.Pairwise (fun a b=>DG a.1 b.1<=0)->(OU x l).Pairwise (fun a b=>DG a.1 b.1<=0)
 | [],_=>List.pairwise_singleton ..
 | y::r,h=>by
  unfold OU;obtain⟨h1,h2⟩:=List.pairwise_cons.1 h;split
  ·rename_i hc;refine List.pairwise_cons.2 ⟨fun z hz=>?_,JX x r h2⟩;rcases List.mem_cons.1 ((JD x r).mem_iff.1 hz) with rfl | hz
   ·exact hc
   ·exact h1 z hz
  ·rename_i hc;have hx:DG x.1 y.1<=0:=by have:=EX.sym x.1 y.1;omega
   refine List.pairwise_cons.2 ⟨fun z hz=>?_,h⟩;rcases List.mem_cons.1 hz with rfl | hz
   ·exact hx
   ·exact Aha hx (h1 z hz)
theorem L9:∀ l,(Qm l).Pairwise (fun a b=>DG a.1 b.1<=0)
 | []=>List.Pairwise.nil
 | x::r=>JX x _ (L9 r)
theorem Af8 {l:List (Sc×Int)} (h:(l.map (·.1)).Nodup) {a b:Sc×Int} (ha:a∈l) (hb:b∈l) (e:a.1=b.1):a=b:=by
 induction l with
 | nil=>cases ha
 | cons x r ih=>
  rw[List.map_cons,List.nodup_cons] at h;rcases List.mem_cons.1 ha with e1 | h1
  ·rcases List.mem_cons.1 hb with e2 | h2
   ·rw[e1,e2]
   ·exact absurd (by rw[<- e1,e];exact List.mem_map_of_mem h2) h.1
  ·rcases List.mem_cons.1 hb with e2 | h2
   ·exact absurd (by rw[<- e2,<- e];exact List.mem_map_of_mem h1) h.1
   ·exact ih h.2 h1 h2
theorem Afj {l m:List (Sc×Int)} (hn:(l.map (·.1)).Nodup) (hs:m.Pairwise (fun a b=>DG a.1 b.1<=0)) (hp:m.Perm l):m=Qm l:=
 List.Perm.eq_of_pairwise (le:=fun a b=>DG a.1 b.1<=0) (fun a b ha hb k1 k2=>by
  have:=EX.sym a.1 b.1;exact Af8 hn (hp.mem_iff.1 ha) ((Ef l).mem_iff.1 hb) ((EX.eq _ _).1 (by omega))) hs (L9 l) (hp.trans (Ef l).symm)
def Gb (x:Nd):List (Sc×Int):=if x.kind=2/\x.keys.length=x.kids.length then Qm (x.keys.zip x.kids) else []
def Fk (x:Nd):List Int:=if x.kind=1 then x.kids else (Gb x).map (·.2)
def Et (x:Nd):List Sc:=(Gb x).map (·.1)
theorem Zi {x:Nd} {k:Int} (h:k∈Fk x):k∈x.kids:=by
 unfold Fk at h;split at h
 ·exact h
 ·obtain⟨p,hp,rfl⟩:=List.mem_map.1 h;unfold Gb at hp;split at hp
  ·exact(List.of_mem_zip ((Ef _).mem_iff.1 hp)).2
  ·cases hp
section num
variable {κ:Type} [DecidableEq κ]
def Dn (m:List (κ×Int)) (s:κ):List (κ×Int):=if (AT s m).isSome then m else mput s (m.length:Int) m
def Ls:List κ->List (κ×Int)->List Int
 | [],_=>[]
 | s::r,m=>(AT s (Dn m s)).getD 0::Ls r (Dn m s)
def Fy (l:List κ) (m:List (κ×Int)):List (κ×Int):=l.foldl Dn m
def Nk (m:List (κ×Int)):List κ:=m.map (·.1)
theorem Gd {s:κ}:∀ {m:List (κ×Int)},(AT s m).isSome=true↔s∈Nk m
 | []=>by simp[AT,Nk]
 | (y,u)::r=>by
  unfold AT;by_cases h:y=s
  ·subst h;simp[Nk]
  ·rw[if_neg h,Gd];have hn:s≠y:=fun e=>h e.symm;simp[Nk,hn]
theorem TF {s:κ} {v:Int}:∀ {m:List (κ×Int)},s∉Nk m->mput s v m=m++[(s,v)]
 | [],_=>rfl
 | (y,u)::r,h=>by
  unfold Nk at h;rw[List.map_cons,List.mem_cons,not_or] at h;unfold mput;rw[if_neg (fun e=>h.1 e.symm),TF h.2];rfl
theorem MB {m:List (κ×Int)} {s:κ} (h:s∈Nk m):Dn m s=m:=by unfold Dn;rw[if_pos (Gd.2 h)]
theorem M7 {m:List (κ×Int)} {s:κ} (h:s∉Nk m):Dn m s=m++[(s,(m.length:Int))]:=by unfold Dn;rw[if_neg (fun e=>h (Gd.1 e)),TF h]
theorem Aal {s:κ} {v:Int} {m r:List (κ×Int)} (h:AT s m=F v):AT s (m++r)=F v:=by
 induction m with
 | nil=>cases h
 | cons p t ih=>
  obtain⟨y,u⟩:=p;unfold AT at h;show AT s ((y,u)::(t++r))=_;unfold AT;split at h
  ·rename_i e;rw[if_pos e];exact h
  ·rename_i e;rw[if_neg e];exact ih h
theorem Yh {m:List (κ×Int)} {s t:κ} {v:Int} (h:AT s m=F v):AT s (Dn m t)=F v:=by
 by_cases ht:t∈Nk m
 ·rw[MB ht];exact h
 ·rw[M7 ht];exact Aal h
theorem TD {s:κ} {v:Int}:∀ {l:List κ} {m:List (κ×Int)},AT s m=F v->AT s (Fy l m)=F v
 | [],_,h=>h
 | t::r,m,h=>TD (l:=r) (m:=Dn m t) (Yh h)
theorem Abh (m:List (κ×Int)) (s t:κ):t∈Nk (Dn m s)↔t=s\/t∈Nk m:=by
 by_cases h:s∈Nk m
 ·rw[MB h];constructor
  ·exact .inr
  ·rintro(rfl | h2)
   ·exact h
   ·exact h2
 ·rw[M7 h];unfold Nk;simp[or_comm]
theorem NT:∀ (l:List κ) (m:List (κ×Int)),Ls l m=l.map fun s=>(AT s (Fy l m)).getD 0
 | [],_=>rfl
 | s::r,m=>by
  have h1:∃ v,AT s (Dn m s)=F v:=Option.isSome_iff_exists.1 (Gd.2 ((Abh m s s).2 (.inl rfl)));obtain⟨v,hv⟩:=h1;show(AT s (Dn m s)).getD 0::Ls r (Dn m s)=(AT s (Fy r (Dn m s))).getD 0::r.map fun t=>(AT t (Fy r (Dn m s))).getD 0;rw[TD hv,hv,NT r]
def Yf (m:List (κ×Int)):Prop:=(Nk m).Nodup/\∀ (i:Nat) (p:κ×Int),m[i]? =F p->p.2=(i:Int)
theorem Yf.add {m:List (κ×Int)} (h:Yf m) (s:κ):Yf (Dn m s):=by
 by_cases hs:s∈Nk m
 ·rw[MB hs];exact h
 ·rw[M7 hs];refine⟨?_,fun i p hp=>?_⟩
  ·unfold Nk;rw[List.map_append,List.map_singleton];exact List.nodup_append.2 ⟨h.1,by simp,fun a ha b hb=>by rw[List.mem_singleton] at hb;subst hb;exact fun e=>hs (e▸ha)⟩
  ·by_cases hi:i<m.length
   ·rw[List.getElem?_append_left hi] at hp;exact h.2 i p hp
   ·rw[List.getElem?_append_right (by omega)] at hp;have:i - m.length=0:=by
     cases hd:i - m.length with
     | zero=>rfl
     | succ j=>rw[hd] at hp;cases hp
    rw[this] at hp;cases hp;show(m.length:Int)=i;omega
theorem Yf.end':∀ {l:List κ} {m:List (κ×Int)},Yf m->Yf (Fy l m)
 | [],_,h=>h
 | s::r,m,h=>Yf.end' (l:=r) (h.add s)
theorem WY:Yf ([]:List (κ×Int)):=⟨List.nodup_nil,fun i p h=>by cases h⟩
theorem Rk {m:List (κ×Int)} (h:Yf m) {s:κ} {v:Int} (hv:AT s m=F v):∃ i:Nat,v=(i:Int)/\m[i]? =F (s,v):=by
 have:∀ m:List (κ×Int),AT s m=F v->∃ i:Nat,m[i]? =F (s,v):=by
  intro m;induction m with
  | nil=>intro h;cases h
  | cons p r ih=>
   obtain⟨y,u⟩:=p;intro h;unfold AT at h;split at h
   ·rename_i e;cases h;subst e;exact⟨0,rfl⟩
   ·obtain⟨i,hi⟩:=ih h;exact⟨i+1,hi⟩
 obtain⟨i,hi⟩:=this m hv;exact⟨i,h.2 i _ hi,hi⟩
theorem Yf.inj {m:List (κ×Int)} (h:Yf m) {s t:κ} (hs:s∈Nk m) (ht:t∈Nk m) (e:(AT s m).getD 0=(AT t m).getD 0):s=t:=by
 obtain⟨v,hv⟩:=Option.isSome_iff_exists.1 (Gd.2 hs);obtain⟨u,hu⟩:=Option.isSome_iff_exists.1 (Gd.2 ht);rw[hv,hu] at e;obtain⟨i,h1,h2⟩:=Rk h hv;obtain⟨j,k1,k2⟩:=Rk h hu;have e:v=u:=e;obtain rfl:i=j:=by omega
 rw[h2] at k2;cases k2;rfl
theorem UY:∀ {l:List κ} {m:List (κ×Int)} {t:κ},t∈Nk (Fy l m)↔t∈l\/t∈Nk m
 | [],m,t=>by simp[Fy]
 | s::r,m,t=>by
  show t∈Nk (Fy r (Dn m s))↔_;rw[UY,Abh,List.mem_cons];constructor
  ·rintro(h | h | h)
   ·exact .inl (.inr h)
   ·exact .inl (.inl h)
   ·exact .inr h
  ·rintro((h | h) | h)
   ·exact .inr (.inl h)
   ·exact .inl h
   ·exact .inr (.inr h)
theorem Ns (l:List κ) (m:List (κ×Int)):(Ls l m).length=l.length:=by rw[NT,List.length_map]
theorem S4:∀ (a b:List κ),a.Nodup->(∀ x∈a,x∈b)->a.length<=b.length
 | [],_,_,_=>Nat.zero_le _
 | x::a,b,h,hs=>by
  obtain⟨h1,h2⟩:=List.nodup_cons.1 h;have hx:=hs x (List.mem_cons_self ..);have:=S4 a (b.erase x) h2 (fun y hy=>(List.mem_erase_of_ne (fun e:y=x=>h1 (by rw[<- e];exact hy))).2 (hs y (List.mem_cons_of_mem _ hy)));rw[List.length_erase_of_mem hx] at this;have:=List.length_pos_of_mem hx;rw[List.length_cons];omega
theorem Afh (l:List κ):(Fy l []).length=(Nk (Fy l [])).length:=(List.length_map _).symm
theorem Ajy (l:List κ):(Fy l []).length<=l.length:=by
 rw[Afh];exact S4 _ _ (Yf.end' WY).1 (fun x hx=>(UY.1 hx).elim id (fun h=>by cases h))
theorem Aab {l:List κ} {v:Int} (h:v∈Ls l []):0<=v/\v<l.length:=by
 rw[NT] at h;obtain⟨s,hs,rfl⟩:=List.mem_map.1 h;obtain⟨v,hv⟩:=Option.isSome_iff_exists.1 (Gd.2 (UY.2 (.inl hs):s∈Nk (Fy l [])));rw[hv];obtain⟨i,h1,h2⟩:=Rk (Yf.end' WY) hv;have h3:=(List.getElem?_eq_some_iff.1 h2).1;have:=Ajy l;show 0<=v/\v<_;omega
end num
end
section
def Mg (v:Value) (ks:List Sc):Aw:=⟨fun Fz w=>∃ (A:Option Addr) (c:Nat),v=Z A ks.length c/\GZ w Fz A ks,fun Fz w w' h ⟨A,c,e,hk⟩=>⟨A,c,e,hk.to fun b o u hb hu=>⟨(World.cell?_of_block (w:=w) (a:=⟨b,o,O⟩) (h b hb)).trans hu,hb⟩⟩⟩
theorem Aee {ks:List Sc}:∀ {j:Nat} {x:Sc},ks[j]? =F x->∀ i v,(Fl x)[i]? =F v->(ks.flatMap Fl)[j*3+i]? =F v:=by
 induction ks with
 | nil=>intro j x h;cases h
 | cons y r ih=>
  intro j x h i v hv;rw[List.flatMap_cons];cases j with
  | zero=>cases h;rw[Nat.zero_mul,Nat.zero_add,List.getElem?_append_left (List.getElem?_eq_some_iff.1 hv).1];exact hv
  | succ j=>
   rw[List.getElem?_append_right (by show 3<=_;omega)];have:=ih (j:=j) (x:=x) h i v hv;rw[show(j+1)*3+i - (Fl y).length=j*3+i by show(j+1)*3+i - 3=_;omega];exact this
theorem Ad9 (ks:List Sc):(ks.flatMap Fl).length=ks.length*3:=by
 induction ks with
 | nil=>rfl
 | cons y r ih=>rw[List.flatMap_cons,List.length_append,ih,List.length_cons];show 3+_=_;omega
theorem Qv:∀ {ks:List Sc} {i:Nat} {v:Value},(ks.flatMap Fl)[i]? =F v->∃ x,ks[i / 3]? =F x/\(Fl x)[i%3]? =F v
 | [],i,v,h=>by cases h
 | y::r,i,v,h=>by
  rw[List.flatMap_cons] at h;by_cases hi:i<3
  ·rw[List.getElem?_append_left (by show i<3;exact hi)] at h;exact⟨y,by rw[Nat.div_eq_of_lt hi];rfl,by rw[Nat.mod_eq_of_lt hi];exact h⟩
  ·rw[List.getElem?_append_right (by show 3<=i;omega)] at h;obtain⟨x,h1,h2⟩:=Qv (ks:=r) (i:=i - 3) h;exact⟨x,by rw[show i / 3=(i - 3) / 3+1 by omega];exact h1,by rw[show i%3=(i - 3)%3 by omega];exact h2⟩
theorem GZ.cs {w:Y} {S:Nat->Prop} {b o:Nat} {ks:List Sc} (h:GZ w S (F ⟨b,o,O⟩) ks):Cs w b o (ks.flatMap Fl):=fun i v hv=>by
 obtain⟨x,h1,h2⟩:=Qv hv;obtain⟨b',o',e,_,hc⟩:=h _ x h1;cases e
 have:=hc _ v h2
 rwa [show o+i / 3*3+i%3=o+i by omega] at this
theorem Ags (ks:List Sc):(ks.flatMap Fl).all Value.oneCell'=true:=by
 rw[List.all_eq_true];intro v hv;obtain⟨x,_,hx⟩:=List.mem_flatMap.1 hv;simp[Fl] at hx;rcases hx with rfl | rfl | rfl<;>rfl
theorem An.ks {e:TypeId} {v:Value} {ks:List Sc} {Fz:Nat->Prop} {w:Y} (h:(An e 3 v ks.length (ks.flatMap Fl)).is Fz w):(Mg v ks).is Fz w:=by
 obtain⟨⟨h1,h2⟩,h3⟩:=h;rcases h2 with ⟨rfl,h0⟩ | ⟨g,cap,cur,rfl,_,hg,_,_,_,ht⟩
 ·have:ks=[]:=List.eq_nil_of_length_eq_zero h0;subst this;exact⟨O,0,rfl,fun j x hj=>by cases hj⟩
 ·refine⟨_,cap,rfl,fun j x hj=>⟨g,0,rfl,h3 g rfl,fun i u hu=>?_⟩⟩;have h4:=Aee hj i u hu;rw[<- ht,List.getElem?_take] at h4;split at h4
  ·simp only[World.cell?,hg]
   simpa using h4
  ·cases h4
theorem Cq.as {X X':Aw} {r:List Aw} {w:Y} {G:Nat->Prop} (h:Cq (X::r) w G) (hx:∀ Fz w,X.is Fz w->X'.is Fz w):Cq (X'::r) w G:=let ⟨Fz,h1,h2,h3⟩:=h;⟨Fz,hx Fz w h1,h2,h3⟩
def Ja (w:Y) (S:Nat->Prop) (A:Option Addr) (is:List Int):Prop:=∀ (j:Nat) (i:Int),is[j]? =F i->∃ b o,A=F ⟨b,o,O⟩/\S b/\Cs w b (o+j*1) [I J i]
theorem Ja.to {w w':Y} {S S':Nat->Prop} {A:Option Addr} {is:List Int} (h:Ja w S A is) (hc:∀ b o v,S b->w.cell? ⟨b,o,O⟩=F v->w'.cell? ⟨b,o,O⟩=F v/\S' b):Ja w' S' A is:=fun j x hj=>by
 obtain⟨b,o,e,hb,hcs⟩:=h j x hj;exact⟨b,o,e,(hc b _ _ hb (hcs 0 _ rfl)).2,fun i v hv=>(hc b _ _ hb (hcs i v hv)).1⟩
def isA (v:Value) (is:List Int):Aw:=⟨fun Fz w=>∃ (A:Option Addr) (c:Nat),v=Z A is.length c/\Ja w Fz A is,fun Fz w w' h ⟨A,c,e,hk⟩=>⟨A,c,e,hk.to fun b o u hb hu=>⟨(World.cell?_of_block (w:=w) (a:=⟨b,o,O⟩) (h b hb)).trans hu,hb⟩⟩⟩
theorem Ja.cs {w:Y} {S:Nat->Prop} {b o:Nat} {is:List Int} (h:Ja w S (F ⟨b,o,O⟩) is):Cs w b o (is.map (I J)):=fun i v hv=>by
 rw[List.getElem?_map] at hv;cases hi:is[i]? with
 | none=>rw[hi] at hv;cases hv
 | some x=>
  rw[hi] at hv;cases hv;obtain⟨b',o',e,_,hc⟩:=h i x hi;cases e
  have:=hc 0 _ rfl
  rwa [Nat.mul_one,Nat.add_zero] at this
theorem Un (is:List Int):(is.map (Value.int .i64)).all Value.oneCell'=true:=by rw[List.all_map,List.all_eq_true];intro x _;rfl
theorem An.is' {e:TypeId} {v:Value} {n:Nat} {is:List Int} {Fz:Nat->Prop} {w:Y} (h:(An e 1 v n (is.map (I J))).is Fz w) (hn:n=is.length):(isA v is).is Fz w:=by
 subst hn;obtain⟨⟨h1,h2⟩,h3⟩:=h;rcases h2 with ⟨rfl,h0⟩ | ⟨g,cap,cur,rfl,_,hg,_,_,_,ht⟩
 ·have:is=[]:=List.eq_nil_of_length_eq_zero h0;subst this;exact⟨O,0,rfl,fun j x hj=>by cases hj⟩
 ·refine⟨_,cap,rfl,fun j x hj=>⟨g,0,rfl,h3 g rfl,fun i u hu=>?_⟩⟩;cases i with
  | succ i=>cases hu
  | zero=>
   cases hu
   have h4:(is.map (Value.int .i64))[j]? =F (I J x):=by rw[List.getElem?_map,hj];rfl
   rw[<- ht,List.getElem?_take] at h4;split at h4
   ·simp only[World.cell?,hg]
    simpa using h4
   ·cases h4
def Ps (x:Nd) (kv iv:Value):List Value:=[I J x.kind,I J x.x.kind,I J x.x.num,Q x.x.str,kv,iv]
def Fa (w:Y) (S:Nat->Prop) (A:Option Addr) (ns:List Nd):Prop:=∀ j x,ns[j]? =F x->∃ b o KA kc IA ic,A=F ⟨b,o,O⟩/\S b/\Cs w b (o+j*6) (Ps x (Z KA x.keys.length kc) (Z IA x.kids.length ic))/\GZ w S KA x.keys/\Ja w S IA x.kids
theorem Fa.to {w w':Y} {S S':Nat->Prop} {A:Option Addr} {ns:List Nd} (h:Fa w S A ns) (hc:∀ b o v,S b->w.cell? ⟨b,o,O⟩=F v->w'.cell? ⟨b,o,O⟩=F v/\S' b):Fa w' S' A ns:=fun j x hj=>by
 obtain⟨b,o,KA,kc,IA,ic,e,hb,hcs,hk,hi⟩:=h j x hj;exact⟨b,o,KA,kc,IA,ic,e,(hc b _ _ hb (hcs 0 _ rfl)).2,fun i v hv=>(hc b _ _ hb (hcs i v hv)).1,hk.to hc,hi.to hc⟩
def Fx (A:Option Addr) (c:Nat) (g:Gf):Value:=.agg #[I J g.root,Z A g.nodes.length c]
def KZ (v:Value) (g:Gf):Aw:=⟨fun Fz w=>∃ (A:Option Addr) (c:Nat),v=Fx A c g/\Fa w Fz A g.nodes,fun Fz w w' h ⟨A,c,e,hk⟩=>⟨A,c,e,hk.to fun b o u hb hu=>⟨(World.cell?_of_block (w:=w) (a:=⟨b,o,O⟩) (h b hb)).trans hu,hb⟩⟩⟩
def BE:List Nd->List (Value×Value)->List Value
 | x::r,p::q=>Ps x p.1 p.2++BE r q
 | _,_=>[]
def FS (it:TypeId):List Nd->List (Value×Value)->List Aw
 | x::r,p::q=>Mg p.1 x.keys::An it 1 p.2 x.kids.length (x.kids.map (I J))::FS it r q
 | _,_=>[]
theorem MN {it:TypeId}:∀ (ns:List Nd) (vs:List (Value×Value)) (x:Nd) (p:Value×Value),vs.length=ns.length->BE (ns++[x]) (vs++[p])=BE ns vs++Ps x p.1 p.2/\FS it (ns++[x]) (vs++[p])=FS it ns vs++[Mg p.1 x.keys,An it 1 p.2 x.kids.length (x.kids.map (I J))]
 | [],[],x,p,_=>⟨by simp[BE],by simp[FS]⟩
 | y::r,q::t,x,p,h=>by
  obtain⟨h1,h2⟩:=MN (it:=it) r t x p (by simpa using h);simp only[List.cons_append,BE,FS,h1,h2,List.append_assoc,and_self]
 | [],_::_,x,p,h=>by cases h
 | _::_,[],x,p,h=>by cases h
theorem IH (x:Nd) (kv iv:Value):(Ps x kv iv).length=6:=rfl
theorem R4:∀ (ns:List Nd) (vs:List (Value×Value)),vs.length=ns.length->(BE ns vs).length=ns.length*6
 | [],[],_=>rfl
 | y::r,q::t,h=>by
  rw[BE,List.length_append,R4 r t (by simpa using h),List.length_cons,IH];omega
 | [],_::_,h=>by cases h
 | _::_,[],h=>by cases h
theorem JU:∀ (ns:List Nd) (vs:List (Value×Value)) (i:Nat) (x:Nd) (p:Value×Value),vs.length=ns.length->ns[i]? =F x->vs[i]? =F p->(BE ns vs).drop (i*6)=Ps x p.1 p.2++BE (ns.drop (i+1)) (vs.drop (i+1))
 | y::r,q::t,0,x,p,h,hx,hp=>by cases hx;cases hp;rfl
 | y::r,q::t,i+1,x,p,h,hx,hp=>by
  have:=JU r t i x p (by simpa using h) hx hp;rw[BE,show(i+1)*6=6+i*6 by omega,<- List.drop_drop];have e:(Ps y q.1 q.2++BE r t).drop 6=BE r t:=List.drop_left' (IH ..);rw[e,this];rfl
 | [],_,i,x,p,h,hx,hp=>by cases hx
 | _::_,[],i,x,p,h,hx,hp=>by cases h
theorem Ee:∀ (a l:List Value) (o:Nat) (vs r:List Value),Bo l o vs=F r->Bo (a++l) (a.length+o) vs=F (a++r)
 | [],l,o,vs,r,h=>by rw[List.length_nil,Nat.zero_add];exact h
 | x::a,l,o,vs,r,h=>by
  have:=Ee a l o vs r h;rw[List.length_cons,show a.length+1+o=(a.length+o)+1 by omega];show(match Bo (a++l) (a.length+o) vs with | some r=>F (x::r) | none=>O)=_;rw[this];rfl
theorem S9:∀ (ns:List Nd) (vs:List (Value×Value)) (i:Nat) (x:Nd) (p:Value×Value) (iv:Value) (k:Int),vs.length=ns.length->ns[i]? =F x->vs[i]? =F p→
  Bo (BE ns vs) (i*6+5) [iv]=F (BE (ns.modify i fun n=>{n with kids:=n.kids++[k]}) (vs.set i (p.1,iv)))
 | y::r,q::t,0,x,p,iv,k,h,hx,hp=>by
  cases hx;cases hp
  have hn:∀ l:List Value,Bo l 0 []=F l:=by intro l;cases l<;>rfl
  have:=Ee [I J y.kind,I J y.x.kind,I J y.x.num,Q y.x.str,q.1] (q.2::BE r t) 0 [iv] (iv::BE r t) (by show(match Bo (BE r t) 0 [] with | some r=>F (iv::r) | none=>O)=_;rw[hn]);exact this
 | y::r,q::t,i+1,x,p,iv,k,h,hx,hp=>by
  have:=S9 r t i x p iv k (by simpa using h) hx hp;rw[BE,show(i+1)*6+5=(Ps y q.1 q.2).length+(i*6+5) by rw[IH];omega,Ee _ _ _ _ _ this];rw[List.modify_succ_cons,List.set_cons_succ];rfl
 | [],_,i,x,p,iv,k,h,hx,hp=>by cases hx
 | _::_,[],i,x,p,iv,k,h,hx,hp=>by cases h
theorem WW {it:TypeId}:∀ (ns:List Nd) (vs:List (Value×Value)) (i:Nat) (x:Nd) (p:Value×Value),vs.length=ns.length->ns[i]? =F x->vs[i]? =F p→
  ∃ A1 A2,FS it ns vs=A1++An it 1 p.2 x.kids.length (x.kids.map (I J))::A2/\∀ (iv:Value) (k:Int),FS it (ns.modify i fun n=>{n with kids:=n.kids++[k]}) (vs.set i (p.1,iv))=A1++An it 1 iv (x.kids.length+1) ((x.kids++[k]).map (I J))::A2
 | y::r,q::t,0,x,p,h,hx,hp=>by
  cases hx;cases hp
  refine⟨[Mg q.1 y.keys],FS it r t,rfl,fun iv k=>?_⟩;rw[List.modify_zero_cons,List.set_cons_zero];show Mg q.1 y.keys::An it 1 iv (y.kids++[k]).length _::FS it r t=_;rw[List.length_append];rfl
 | y::r,q::t,i+1,x,p,h,hx,hp=>by
  obtain⟨A1,A2,h1,h2⟩:=WW (it:=it) r t i x p (by simpa using h) hx hp;refine⟨Mg q.1 y.keys::An it 1 q.2 y.kids.length (y.kids.map (I J))::A1,A2,by rw[FS,h1];rfl,fun iv k=>?_⟩;rw[List.modify_succ_cons,List.set_cons_succ,FS,h2 iv k];rfl
 | [],_,i,x,p,h,hx,hp=>by cases hx
 | _::_,[],i,x,p,h,hx,hp=>by cases h
section
variable {C:Nat->Prop} {w0 w:Y} {A A1 A2:List Aw} {X:Aw}
theorem Pk.mid:∀ (A1 A2:List Aw),Pk X (A1++X::A2) (A1++A2)
 | [],_=>.hd
 | _::A1,A2=>.tl (Pk.mid A1 A2)
theorem Ss:Mem C w0 (star (A1++X::A2)::A) w↔Mem C w0 (X::star (A1++A2)::A) w:=by
 constructor
 ·rintro⟨he,Fz,h1,h2,h3⟩;obtain⟨F',k1,k2,k3⟩:=Cq.pk (Pk.mid A1 A2) (show Cq (A1++X::A2) w Fz from h1);exact⟨he,F',k1,fun b hb=>h2 b (k2 b hb),fun b=>Fz b/\¬F' b,k3,fun b hb=>⟨h2 b hb.1,hb.2⟩,h3.mono (fun b hb=>⟨⟨hb.1,fun h=>hb.2 (k2 b h)⟩,fun h=>hb.2 h.1⟩) (fun _ _=>rfl)⟩
 ·rintro⟨he,F',k1,k2,Fz,h1,h2,h3⟩;refine⟨he,fun b=>F' b\/Fz b,?_,fun b hb=>hb.elim (k2 b) (fun h=>(h2 b h).1),h3.mono (fun b hb=>⟨hb.1.1,fun h=>h.elim hb.1.2 hb.2⟩) (fun _ _=>rfl)⟩;have:Cq ([X]++(A1++A2)) w (fun b=>F' b\/Fz b):=⟨F',k1,fun b hb=>.inl hb,Cq.mono (A:=A1++A2) h1 (fun b hb=>⟨.inr hb,(h2 b hb).2⟩) (fun _ _=>rfl)⟩
  exact Cq.swap this
end
section
variable {P:Program} {Fz:Fence} {Qr:Exit->Act->Y->Prop} {n:Nat} {ds:List Deferred} {k:List KL} {d:Bool} {ops:Array Oper} {K:Act->Y->Prop} {i:Nat} {pl pend:List Nat} {l:Env} {S:Y->Prop}
theorem R.any {ι:Type} {Si:ι->Y->Prop} (hs:∀ w,S w->∃ x,Si x w) (hb:∀ x w,Si x w->S w) (h:∀ x,Rj P n ds d ops K pl pend (Si x) l):Rj P n ds d ops K pl pend S l:=by
 intro hok;cases d with
 | false=>exact fun a w ha hw=>let ⟨x,hx⟩:=hs w hw;h x hok a w ha hx
 | true=>exact fun Rs hRs a w ha hw=>let ⟨x,hx⟩:=hs w hw;h x hok Rs (fun j hj w hw=>hRs j hj w (hb x w hw)) a w ha hx
theorem R.iff {S':Y->Prop} (hs:∀ w,S w↔S' w) (h:Rj P n ds d ops K pl pend S' l):Rj P n ds d ops K pl pend S l:=R.any (ι:=Unit) (fun w hw=>⟨(),(hs w).1 hw⟩) (fun _ w hw=>(hs w).2 hw) (fun _=>h)
theorem V.any {ι:Type} {Si:ι->Y->Prop} (hs:∀ w,S w->∃ x,Si x w) (h:∀ x,V P Fz Qr n ds k (Si x) l):V P Fz Qr n ds k S l:=fun a w ha hw=>let ⟨x,hx⟩:=hs w hw;h x a w ha hx
end
end
section
def Tr.kd:Tr->Int
 | .mk k _ _ _ _=>k
def Tr.nm0:Tr->ByteArray
 | .mk _ nm _ _ _=>nm
theorem D7.loc {w w':Y} {Fz:Nat->Prop} {t:Tr} {vs:List Value} (x:D7 w Fz t vs) (h:∀ b,Fz b->w'.heap[b]? =w.heap[b]?):D7 w' Fz t vs:=D7.to (fun b o u hb hu=>⟨(World.cell?_of_block (w:=w) (a:=⟨b,o,O⟩) (h b hb)).trans hu,hb⟩) t vs x
def A9 (vs:List Value) (t:Tr):Aw:=⟨fun Fz w=>D7 w Fz t vs,fun Fz w w' h x=>x.loc h⟩
theorem D7.form {w:Y} {S:Nat->Prop} {k:Int} {nm:ByteArray} {x:Sc} {ks:List Sc} {ts:List Tr} {vs:List Value} (h:D7 w S (.mk k nm x ks ts) vs):∃ (KA:Option Addr) (kc:Nat) (A:Option Addr) (c:Nat),vs=[I J k,Q nm,I J x.kind,I J x.num,Q x.str,Z KA ks.length kc,Z A ts.length c]:=by
 unfold D7 at h;obtain⟨KA,kc,A,c,e,_⟩:=h;exact⟨KA,kc,A,c,e⟩
theorem D7.len {w:Y} {S:Nat->Prop} {t:Tr} {vs:List Value} (h:D7 w S t vs):vs.length=7/\vs.all Value.oneCell'=true:=by
 cases t
 obtain⟨KA,kc,A,c,rfl⟩:=h.form;exact⟨rfl,rfl⟩
theorem TsV.of_get {w:Y} {S:Nat->Prop} {A:Option Addr}:∀ {ts:List Tr} {i:Nat},(∀ (k:Nat) (t:Tr),ts[k]? =F t->∃ (b o:Nat) (us:List Value),A=F ⟨b,o,O⟩/\S b/\Cs w b (o+(i+k)*7) us/\D7 w S t us)->D7.TsV w S A i ts
 | [],i,_=>by unfold D7.TsV;trivial
 | t::r,i,h=>by
  unfold D7.TsV;refine⟨h 0 t rfl,TsV.of_get fun k t hk=>?_⟩;have:=h (k+1) t hk
  rwa [show i+(k+1)=i+1+k by omega] at this
abbrev TY:=Int×ByteArray×Sc×(Option Addr×Nat×Nat)×(Option Addr×Nat×Nat)
def AM (y:TY):List Value:=[I J y.1,Q y.2.1,I J y.2.2.1.kind,I J y.2.2.1.num,Q y.2.2.1.str,Z y.2.2.2.1.1 y.2.2.2.1.2.1 y.2.2.2.1.2.2,Z y.2.2.2.2.1 y.2.2.2.2.2.1 y.2.2.2.2.2.2]
theorem D7.y {w:Y} {S:Nat->Prop}:∀ {t:Tr} {vs:List Value},D7 w S t vs->∃ y:TY,vs=AM y/\y.1=t.kd/\y.2.1=t.nm0
 | .mk k nm x ks ts,vs,h=>by
  obtain⟨KA,kc,A,c,rfl⟩:=h.form;exact⟨(k,nm,x,(KA,ks.length,kc),(A,ts.length,c)),rfl,rfl,rfl⟩
def CC:List Tr->List (List Value)->List Aw
 | t::r,vs::us=>A9 vs t::CC r us
 | _,_=>[]
theorem Ik:∀ (ts:List Tr) (us:List (List Value)) (t:Tr) (vs:List Value),us.length=ts.length->CC (ts++[t]) (us++[vs])=CC ts us++[A9 vs t]
 | [],[],t,vs,_=>rfl
 | y::r,u::q,t,vs,h=>by
  have:=Ik r q t vs (by simpa using h);simp only[List.cons_append,CC,this]
 | [],_::_,t,vs,h=>by cases h
 | _::_,[],t,vs,h=>by cases h
theorem MV {w:Y}:∀ {ts:List Tr} {us:List (List Value)} {j:Nat} {t:Tr} {vs:List Value} {G:Nat->Prop},Cq (CC ts us) w G->ts[j]? =F t->us[j]? =F vs->∃ Fz:Nat->Prop,(∀ b,Fz b->G b)/\D7 w Fz t vs
 | y::r,u::q,0,t,vs,G,h,hx,hp=>by
  cases hx;cases hp
  obtain⟨Fz,h1,h2,_⟩:=h;exact⟨Fz,h2,h1⟩
 | y::r,u::q,j+1,t,vs,G,h,hx,hp=>by
  obtain⟨Fz,h1,h2,h3⟩:=h;obtain⟨F4,b1,b2⟩:=MV h3 (j:=j) hx hp;exact⟨F4,fun b hb=>(b1 b hb).1,b2⟩
 | [],_,j,t,vs,G,h,hx,hp=>by cases hx
 | _::_,[],j,t,vs,G,h,hx,hp=>by cases hp
theorem Ahr:∀ (us:List (List Value)) (j:Nat) (vs:List Value),(∀ u∈us,u.length=7)->us[j]? =F vs->us.flatten.drop (j*7)=vs++(us.drop (j+1)).flatten
 | u::q,0,vs,h,hj=>by cases hj;rfl
 | u::q,j+1,vs,h,hj=>by
  have:=Ahr q j vs (fun v hv=>h v (by simp[hv])) hj;rw[List.flatten_cons,show(j+1)*7=7+j*7 by omega,<- List.drop_drop,List.drop_left' (h u (by simp)),this];rfl
 | [],j,vs,h,hj=>by cases hj
theorem Pe (us:List (List Value)) (h:∀ u∈us,u.length=7):us.flatten.length=us.length*7:=by
 induction us with
 | nil=>rfl
 | cons u q ih=>rw[List.flatten_cons,List.length_append,ih (fun v hv=>h v (by simp[hv])),h u (by simp),List.length_cons];omega
theorem D7.more {w:Y} {Fz G:Nat->Prop} {t:Tr} {vs:List Value} (h:D7 w Fz t vs) (hs:∀ b,Fz b->G b):D7 w G t vs:=D7.to (fun b o u hb hu=>⟨hu,hs b hb⟩) t vs h
theorem GZ.more {w:Y} {Fz G:Nat->Prop} {A:Option Addr} {ks:List Sc} (h:GZ w Fz A ks) (hs:∀ b,Fz b->G b):GZ w G A ks:=h.to fun b o u hb hu=>⟨hu,hs b hb⟩
theorem V8 {tt:TypeId} {w:Y} {Fz:Nat->Prop} {k:Int} {nm:ByteArray} {x:Sc} {ks:List Sc} {ts:List Tr} {kv v:Value} {us:List (List Value)} (hl:us.length=ts.length) (h:Cq [Mg kv ks,An tt 7 v ts.length us.flatten,star (CC ts us)] w Fz):
  D7 w Fz (.mk k nm x ks ts) [I J k,Q nm,I J x.kind,I J x.num,Q x.str,kv,v]:=by
 obtain⟨F1,⟨KA,kc,rfl,hk⟩,s1,F2,ho,s2,F3,ht,s3,_⟩:=h;unfold D7;have hv:(v=Z O 0 0/\ts.length=0)\/∃ g c,v=Z (F ⟨g,0,O⟩) ts.length c/\F2 g:=by
  rcases ho.1.2 with h0 | ⟨g,c,cur,e,_⟩
  ·exact .inl h0
  ·exact .inr ⟨g,c,e,ho.2 g (by rw[e];rfl)⟩
 rcases hv with ⟨rfl,h0⟩ | ⟨g,c,rfl,hg⟩
 ·refine⟨KA,kc,O,0,by rw[h0],hk.more s1,?_⟩;have:ts=[]:=List.eq_nil_of_length_eq_zero h0;subst this;unfold D7.TsV;trivial
 ·refine⟨KA,kc,_,c,rfl,hk.more s1,TsV.of_get fun j t hj=>?_⟩;have hlt:=(List.getElem?_eq_some_iff.1 hj).1;have h7:∀ u∈us,u.length=7:=fun u hu=>by
   obtain⟨i,hi,rfl⟩:=List.getElem_of_mem hu;obtain⟨G,_,h1⟩:=MV (show Cq (CC ts us) w F3 from ht) (List.getElem?_eq_getElem (by omega:i<ts.length)) (List.getElem?_eq_getElem hi);exact h1.len.1
  obtain⟨vs,hvs⟩:∃ vs,us[j]? =F vs:=⟨_,List.getElem?_eq_getElem (by omega)⟩
  obtain⟨G,g1,g2⟩:=MV (show Cq (CC ts us) w F3 from ht) hj hvs;have hc:=(An.cs ho).drop (j*7);rw[Ahr us j vs h7 hvs] at hc;refine⟨g,0,vs,rfl,(s2 g hg).1,fun i u hu=>?_,g2.more fun b hb=>(s3 b (g1 b hb)).1.1⟩;have:=hc i u (by rw[List.getElem?_append_left (List.getElem?_eq_some_iff.1 hu).1];exact hu)
  rwa [show 0+(0+j)*7=0+j*7 by omega]
theorem Gq {tt:TypeId} {C:Nat->Prop} {w0 w:Y} {Z0:List Aw} {k:Int} {nm:ByteArray} {x:Sc} {ks:List Sc} {ts:List Tr} {kv v:Value} {us:List (List Value)} (hl:us.length=ts.length) (h:Mem C w0 (Mg kv ks::An tt 7 v ts.length us.flatten::star (CC ts us)::Z0) w):
  Mem C w0 (A9 [I J k,Q nm,I J x.kind,I J x.num,Q x.str,kv,v] (.mk k nm x ks ts)::Z0) w:=by
 have h9:=Mem.toStar (B:=[Mg kv ks,An tt 7 v ts.length us.flatten,star (CC ts us)]) h;exact⟨h9.1,h9.2.as fun Fz w hs=>V8 hl hs⟩
theorem A9.named {C:Nat->Prop} {w0 w:Y} {Z0:List Aw} {k:Int} {nm nm2:ByteArray} {x:Sc} {ks:List Sc} {ts:List Tr} {a b c d e f:Value} (h:Mem C w0 (A9 [a,Q nm,b,c,d,e,f] (.mk k nm x ks ts)::Z0) w):Mem C w0 (A9 [a,Q nm2,b,c,d,e,f] (.mk k nm2 x ks ts)::Z0) w:=
 ⟨h.1,h.2.as fun Fz w hs=>by
  have hs:D7 w Fz (.mk k nm x ks ts) [a,Q nm,b,c,d,e,f]:=hs;show D7 w Fz (.mk k nm2 x ks ts) [a,Q nm2,b,c,d,e,f];unfold D7 at hs |-;obtain⟨KA,kc,A,c,e,h1,h2⟩:=hs;injection e with e0 e;injection e with e1 e;injection e with e2 e;injection e with e3 e;injection e with e4 e;injection e with e5 e;injection e with e6 _;exact⟨KA,kc,A,c,by rw[e0,e2,e3,e4,e5,e6],h1,h2⟩⟩
end
end Go.Proofs.YtdpppepmkeinaaaGreatDoor
