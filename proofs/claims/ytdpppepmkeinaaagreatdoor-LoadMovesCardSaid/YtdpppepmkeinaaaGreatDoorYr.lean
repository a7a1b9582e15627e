/- What is proved: a part of the walk of the program and of its plain laws; no condition beside those that each theorem names. -/
import Derived.Test.YtdpppepmkeinaaaGreatDoorYq
import Derived.Test.YtdpppepmkeinaaaGreatDoorYa
namespace Go.Proofs.YtdpppepmkeinaaaGreatDoor
open Go Go.RowKit Go.Lib
open Go.Value renaming int->I,string->Q,slice->Z
open Go.IntKind renaming i64->J
open Option renaming none->O,some->F
open _root_.Go renaming World->Y
set_option linter.unusedSimpArgs false
set_option linter.unusedVariables false
set_option linter.unusedSectionVars false
section
def AQ:List Oper->Nat->Option Oper
 | [],_=>O
 | o::_,0=>F o
 | _::os,n+1=>AQ os n
theorem EV:∀ (os:List Oper) (n:Nat),AQ os n=os[n]?
 | [],n=>by simp[AQ]
 | a::os,0=>by simp[AQ]
 | a::os,n+1=>by simpa[AQ] using EV os n
def quiet (P:Program):Op->Bool
 | .call {callee:=.builtin b,..}=>match b with | .len | .cap | .min | .max=>true | _=>false
 | .convert _ d _=>match P.underlying d with | some (.int _)=>true | _=>false
 | .move _ | .assign _ | .pick .. | .build .. | .load .. | .nilCheck _ | .binOp .. | .unOp .. | .makeInterface .. | .makeFunc .. | .slice .. | .fieldAddr .. | .field .. | .indexAddr .. | .index .. | .lookup .. | .typeAssert .. | .extract .. =>true
 | _=>false
def Oh:Op->Bool
 | .convert .. =>true
 | .call {callee:=.builtin b,..}=>match b with | .len | .cap | .min | .max=>true | _=>false
 | .move _ | .assign _ | .pick .. | .build .. | .load .. | .nilCheck _ | .binOp .. | .unOp .. | .makeInterface .. | .makeFunc .. | .slice .. | .fieldAddr .. | .field .. | .indexAddr .. | .index .. | .lookup .. | .typeAssert .. | .extract .. =>true
 | _=>false
def DA (ops:Array Oper) (m i:Nat):Bool:=match ops[m]? with
 | some o=>o.after.any fun e=>Region.binds .any e&&e.on==i
 | none=>false
def lst (ops:Array Oper) (pl:List Nat):Array Bool:=((List.range ops.size).map fun i=> !pl.contains i).toArray
def JO (n:Nat) (o:Oper):Bool:=match o.dst with
 | some d=>decide (d<n)
 | none=>true
def okL (P:Program) (ops:Array Oper) (n:Nat):List Nat->Bool
 | []=>true
 | i::pl=>(match ops[i]? with
  | some o=>JO n o&& !pl.contains i&&(if quiet P o.op then (Region.ready .any ops (lst ops (i::pl))).contains i&&Region.free .any ops (lst ops (i::pl)) i else Region.ready .any ops (lst ops (i::pl))==[i])&&((List.range ops.size).all fun m=> !(lst ops (i::pl)).getD m false|| !DA ops m i)
  | none=>false)&&okL P ops n pl
def okF (ops:Array Oper) (n:Nat):List Nat->Bool
 | []=>true
 | i::pl=>(match ops[i]? with
  | some o=>JO n o
  | none=>false)&&okF ops n pl
def Ov (P:Program) (d:Bool) (ops:Array Oper) (n:Nat) (pl:List Nat):Bool:=match d with
 | true=>okL P ops n pl&&Region.noSelect ops
 | false=>okF ops n pl
def FI (P:Program) (o:Oper) (a:Act) (w:Y) (K:Act->Y->Prop):Prop:=match (execOp a.eval o).run P w with
 | .ok (.value v) w'=>K (a.put o.dst v) w'
 | .ok .skip w'=>K (a.put o.dst undef) w'
 | .ok (.enter f args) w'=>Calls P f args w' fun e w''=>∃ v,e=.returned v/\K (a.put o.dst v) w''
 | .ok (.row row args) w'=>Rows P row args w' fun v w''=>K (a.put o.dst v) w''
 | .ok (.round l f tmps x y) w'=>RoundIn Fence.wide 0 P l f tmps x y w' fun e w''=>∃ v,e=.returned v/\K (a.put o.dst v) w''
 | _=>False
def Ms (P:Program) (ops:Array Oper) (i:Nat) (K:Act->Y->Prop) (a:Act) (w:Y):Prop:=match ops[i]? with
 | none=>K a w
 | some o=>if Region.wanted o (yielded ops a.tmps)=true then FI P o a w K else K (a.put o.dst undef) w
def QE (P:Program) (ops:Array Oper) (K:Act->Y->Prop):List Nat->Act->Y->Prop
 | [],a,w=>K a w
 | i::r,a,w=>Ms P ops i (QE P ops K r) a w
def Ng (Fz:Fence):Prop:=Fz=Fence.wide\/∃ l,Fz=Fence.wide.inRound l
def Gc (ops:Array Oper):Bool:=ops.all fun o=>match o.op with | .defer _=>false | _=>true
section
variable {P:Program} {ops:Array Oper} {md:Region.Mode} {S S':Array Bool->Y->Prop} {Fz:Fence} {K K':Act->Y->Prop}
theorem Aaq {o:Oper} {a:Act} {w:Y} (h:FI P o a w K) (hk:∀ a w,K a w->K' a w):FI P o a w K':=by
 unfold FI at*
 split at h
 ·exact hk _ _ h
 ·exact hk _ _ h
 ·exact Calls.mono h fun e w ⟨v,he,h⟩=>⟨v,he,hk _ _ h⟩
 ·exact Rows.mono h fun v w h=>hk _ _ h
 ·exact RoundIn.mono h fun e w ⟨v,he,h⟩=>⟨v,he,hk _ _ h⟩
 ·exact h.elim
theorem M1 {i:Nat} {a:Act} {w:Y} (h:Ms P ops i K a w) (hk:∀ a w,K a w->K' a w):Ms P ops i K' a w:=by
 unfold Ms at*
 split
 ·rename_i e;rw[e] at h;exact hk _ _ h
 ·rename_i e;rw[e] at h;dsimp only at h;split
  ·rename_i hw;rw[if_pos hw] at h;exact Aaq h hk
  ·rename_i hw;rw[if_neg hw] at h;exact hk _ _ h
theorem Ox (h:Gc ops=true) (i:Nat) (o:Oper) (c:Call) (ho:ops[i]? =F o):o.op≠ .defer c:=by
 intro e;obtain⟨hlt,hg⟩:=Array.getElem?_eq_some_iff.1 ho;have:=Array.all_eq_true.1 h i hlt;rw[hg,e] at this;cases this
theorem Ajw {o:Oper} {a:Act} {w:Y} {Qz:Exit->Act->Y->Prop} (hF:Ng Fz) (hd:∀ c,o.op≠ .defer c) (h:FI P o a w K):o.wpIn Fz 0 P a w K Qz:=by
 have key:∀ Fz:Fence,(∀ f,Fz.fn f)->Fz.depth.isSome=false->(∀ f args w R,Calls P f args w R->CallsIn Fz 0 P f args w R)->(∀ row args w R,Rows P row args w R->RowsIn Fz 0 P row args w R)→
   (∀ l f t x y w R,RoundIn Fence.wide 0 P l f t x y w R->RoundIn Fz 0 P l f t x y w R)->o.wpIn Fz 0 P a w K Qz:=by
  intro Fz hfn hdep hc hr hy;unfold FI at h;unfold Oper.wpIn;refine⟨fun f _=>hfn f,?_⟩;rw[Oper.semAt_eq _ _ _ hd];generalize (execOp a.eval o).run P w=r at*
  cases r with
  | ok x w'=>
   cases x<;>dsimp only[Oper.uponIn] at h |-
   case value v=>exact h
   case skip=>exact h
   case enter f args=>exact⟨(fun hh=>by rw[hdep] at hh;cases hh),CallsIn.mono (hc _ _ _ _ h) fun e w ⟨v,he,h⟩=>by subst he;exact h⟩
   case row row args=>exact⟨(fun hh=>by rw[hdep] at hh;cases hh),hr _ _ _ _ h⟩
   case round l f t x y=>exact⟨(fun hh=>by rw[hdep] at hh;cases hh),RoundIn.mono (hy _ _ _ _ _ _ _ h) fun e w ⟨v,he,h⟩=>by subst he;exact h⟩
   all_goals exact h.elim
  | halt x w'=>exact h.elim
 rcases hF with rfl | ⟨l,rfl⟩
 ·exact key _ (fun _=>trivial) rfl (fun f args w R h=>callsIn_wide.2 h) (fun row args w R h c cs _=>let ⟨v,w',r,s⟩:=h c cs;⟨v,w',r,stepsIn_wide.2 s⟩) (fun _ _ _ _ _ _ _ h=>h)
 ·exact key _ (fun _=>trivial) rfl (fun f args w R h=>CallsIn.inRound l (callsIn_wide.2 h)) (fun row args w R h c cs _=>let ⟨v,w',r,s⟩:=h c cs;⟨v,w',r,stepsIn_wide.2 s⟩) (fun _ _ _ _ _ _ _ h=>h)
theorem Aci {i:Nat} {a:Act} {w:Y} {Qz:Exit->Act->Y->Prop} (hF:Ng Fz) (hd:Gc ops=true) (h:Ms P ops i K a w):wpOpIn Fz 0 P ops Qz i K a w:=by
 unfold Ms at h;unfold wpOpIn;cases ho:ops[i]? with
 | none=>rw[ho] at h;exact h
 | some o=>
  rw[ho] at h;dsimp only at h |-;split
  ·rename_i hw;rw[if_pos hw] at h;exact Ajw hF (Ox hd i o · ho) h
  ·rename_i hw;rw[if_neg hw] at h;exact⟨fun f _=>by rcases hF with rfl | ⟨l,rfl⟩<;>exact trivial,h⟩
theorem Xp {Qz:Exit->Act->Y->Prop} (hF:Ng Fz) (hd:Gc ops=true) (hK:∀ a w,K a w->Qz .normal a w):∀ (pl:List Nat) (a:Act) (w:Y),QE P ops K pl a w->wpOpsIn Fz 0 P ops Qz pl a w
 | [],a,w,h=>hK a w h
 | i::pl,a,w,h=>by
  have:=Aci (Qz:=Qz) hF hd (M1 h (fun a w h=>Xp hF hd hK pl a w h));unfold wpOpIn at this;unfold wpOpsIn;exact this
theorem Amj {j:Nat} {oi oj:Oper} {v:Value} {Zz:Y->Prop} (hj:ops[j]? =F oj) (hap:oi.apart ops oj=true) (hsi:∀ cs b,oi.op≠ .select cs b) (hsj:∀ cs b,oj.op≠ .select cs b)
  {a:Act} {w:Y} (hy:YieldsIf P ops Zz oi v a) (h:Ms P ops j K (a.put oi.dst v) w):Ms P ops j (fun a' w'=>YieldsIf P ops Zz oi v a'/\K (a'.put oi.dst v) w') a w:=by
 obtain⟨h1,h2,h3⟩:=Oper.apart_spec hap;have keep:∀ u,YieldsIf P ops Zz oi v (a.put oj.dst u):=fun u=>hy.of_same (execOp_put oi hsi a oj.dst u h3) (wanted_put oi a oj.dst u h3);unfold Ms at*
 rw[hj] at*
 dsimp only at*
 rw[wanted_put oj a oi.dst v h1] at h;split
 ·rename_i hw;rw[if_pos hw] at h;unfold FI at*
  rw[execOp_put oj hsj a oi.dst v h1] at h;generalize (execOp a.eval oj).run P w=r at*
  cases r with
  | ok x w'=>
   cases x<;>dsimp only at h |-
   case value u=>exact⟨keep u,by rw[<- Act.put_comm a v u h2];exact h⟩
   case skip=>exact⟨keep _,by rw[<- Act.put_comm a v undef h2];exact h⟩
   case enter f args=>exact Calls.mono h fun e w'' ⟨u,he,hk⟩=>⟨u,he,keep u,by rw[<- Act.put_comm a v u h2];exact hk⟩
   case row row args=>exact Rows.mono h fun u w'' hk=>⟨keep u,by rw[<- Act.put_comm a v u h2];exact hk⟩
   case round l f t x y=>exact RoundIn.mono h fun e w'' ⟨u,he,hk⟩=>⟨u,he,keep u,by rw[<- Act.put_comm a v u h2];exact hk⟩
   all_goals exact h.elim
  | halt x w'=>exact h.elim
 ·rename_i hw;rw[if_neg hw] at h;exact⟨keep _,by rw[<- Act.put_comm a v undef h2];exact h⟩
theorem N3 {i:Nat} {o:Oper} {v:Value} {Zz:Y->Prop} {a:Act} {w:Y} (hi:ops[i]? =F o) (hy:YieldsIf P ops Zz o v a) (hz:Zz w) (h:K (a.put o.dst v) w):Ms P ops i K a w:=by
 unfold Ms;rw[hi];dsimp only
 rcases hy with ⟨hw,hv⟩ | ⟨hw,rfl⟩
 ·rw[if_pos hw];unfold FI;rw[hv w hz];exact h
 ·rw[if_neg (by rw[hw];simp)];exact h
def E9 (P:Program) (md:Region.Mode) (ops:Array Oper) (K:Act->Y->Prop) (S:Array Bool->Y->Prop):Nat->Array Bool->Act->Y->Prop
 | 0,listed,a,w=>Region.ready md ops listed=[]/\K a w
 | fuel+1,listed,a,w=>
  (Region.ready md ops listed=[]->K a w)∧
  ∀ i∈Region.ready md ops listed,Ms P ops i (fun a' w'=>S (listed.setIfInBounds i true) w'/\E9 P md ops K S fuel (listed.setIfInBounds i true) a' w') a w
theorem KS {Qz:Exit->Act->Y->Prop} (hF:Ng Fz) (hd:Gc ops=true) (hK:∀ a w,K a w->Qz .normal a w):∀ (fuel:Nat) (listed:Array Bool) (a:Act) (w:Y),E9 P md ops K S fuel listed a w->wpAnyIn Fz 0 P md ops Qz fuel listed a w
 | 0,_,a,w,h=>⟨h.1,hK a w h.2⟩
 | fuel+1,_,a,w,h=>⟨fun e=>hK a w (h.1 e),fun i hi=>wpOpIn_mono (fun a' w' h'=>KS hF hd hK fuel _ a' w' h'.2) (Aci hF hd (h.2 i hi))⟩
theorem FT (T:Array Bool->Prop) (hT:∀ L i,T L->T (L.setIfInBounds i true)) (hs:∀ L w,T L->S L w->S' L w):∀ (fuel:Nat) (listed:Array Bool) (a:Act) (w:Y),T listed->E9 P md ops K S fuel listed a w->E9 P md ops K S' fuel listed a w
 | 0,_,_,_,_,h=>h
 | fuel+1,_,_,_,ht,h=>⟨h.1,fun i hi=>M1 (h.2 i hi) (fun a' w' h'=>⟨hs _ _ (hT _ _ ht) h'.1,FT T hT hs fuel _ a' w' (hT _ _ ht) h'.2⟩)⟩
theorem JI {i:Nat} {oi:Oper} {v:Value} {Zz:Y->Prop} (hi:ops[i]? =F oi) (hZ:∀ L w,S L w->(∀ m o,ops[m]? =F o->L.getD m false=true->∀ e∈o.after,Region.binds md e=true->e.on≠i)->Zz w)
  (hsame:∀ L w,S (L.setIfInBounds i true) w↔S L w) (hsel:∀ (j:Nat) (o:Oper) cs b,ops[j]? =F o->o.op≠ .select cs b):
  ∀ (fuel:Nat) (listed:Array Bool) (a:Act) (w:Y),
   (∀ j oj,ops[j]? =F oj->j≠i->listed.getD j true=false->(∀ e∈oj.after,Region.binds md e=true->e.on≠i)->oi.apart ops oj=true)→
   i∈Region.ready md ops listed->(∀ m o,ops[m]? =F o->listed.getD m false=true->∀ e∈o.after,Region.binds md e=true->e.on≠i)->YieldsIf P ops Zz oi v a->S listed w→
   E9 P md ops K S fuel (listed.setIfInBounds i true) (a.put oi.dst v) w->E9 P md ops K S (fuel+1) listed a w:=by
 intro fuel;induction fuel with
 | zero=>
  intro listed a w _ hr hm hy hS H;refine⟨fun h=>(by rw[h] at hr;cases hr),fun j hj=>?_⟩;by_cases hji:j=i
  ·subst hji;exact N3 hi hy (hZ _ _ hS hm) ⟨(hsame _ _).2 hS,H⟩
  ·have:=ready_mono hj hji;rw[H.1] at this;cases this
 | succ fuel ih=>
  intro listed a w hfree hr hm hy hS H;refine⟨fun h=>(by rw[h] at hr;cases hr),fun j hj=>?_⟩;by_cases hji:j=i
  ·subst hji;exact N3 hi hy (hZ _ _ hS hm) ⟨(hsame _ _).2 hS,H⟩
  ·have h1:=H.2 j (ready_mono hj hji);obtain⟨hjun,oj,hoj,hall⟩:=mem_ready.1 hj;have hnot:∀ e∈oj.after,Region.binds md e=true->e.on≠i:=fun e he hb heq=>by
    have h1:=hall e he hb;have h0:=(mem_ready.1 hr).1;rw[heq] at h1;rcases Nat.lt_or_ge i listed.size with h' | h'
    ·simp[h'] at h0 h1;rw[h0] at h1;cases h1
    ·simp[Array.getElem?_eq_none h'] at h1
   have h2:=Amj hoj (hfree j oj hoj hji hjun hnot) (fun cs b=>hsel i oi cs b hi) (fun cs b=>hsel j oj cs b hoj) hy h1;have hfree':∀ k ok,ops[k]? =F ok->k≠i->(listed.setIfInBounds j true).getD k true=false→
     (∀ e∈ok.after,Region.binds md e=true->e.on≠i)->oi.apart ops ok=true:=fun k ok hk hki hun hno=>by
    refine hfree k ok hk hki ?_ hno;by_cases hjk:j=k
    ·subst hjk;exact hjun
    ·rw[getD_set_ne true hjk] at hun;exact hun
   refine M1 h2 (fun a' w' h3=>?_);have hS':S (listed.setIfInBounds j true) w':=by
    have:=h3.2.1;rw[Array.setIfInBounds_comm _ _ (Ne.symm hji)] at this;exact(hsame _ _).1 this
   refine⟨hS',ih (listed.setIfInBounds j true) a' w' hfree' (ready_mono hr (Ne.symm hji)) (fun m o ho hl=>?_) h3.1 hS' ?_⟩
   ·by_cases hjm:j=m
    ·subst hjm;rw[hoj] at ho;cases ho;exact hnot
    ·rw[getD_set_ne false hjm] at hl;exact hm m o ho hl
   ·rw[Array.setIfInBounds_comm _ _ hji];exact h3.2.2
end
def Tm (P:Program) (ops:Array Oper) (Rs:Nat->Y->Prop) (pend:List Nat) (L:Array Bool) (w:Y):Prop:=
 ∀ k,k∈pend->(∀ m o,ops[m]? =F o->quiet P o.op=false->L.getD m false=true->DA ops m k=false)->Rs k w
def Rj (P:Program) (n:Nat) (ds:List Deferred) (d:Bool) (ops:Array Oper) (K:Act->Y->Prop) (pl pend:List Nat) (S:Y->Prop) (l:Env):Prop:=
 Ov P d ops n pl=true->match d with
 | false=>∀ a w,Kn n ds l a->S w->QE P ops K pl a w
 | true=>∀ Rs:Nat->Y->Prop,(∀ j,j∈pend->∀ w,S w->Rs j w)->∀ a w,Kn n ds l a->S w->E9 P .any ops K (Tm P ops Rs pend) pl.length (lst ops pl) a w
def D0 (ops:List Oper) (l:Env):Option (Nat×Bool)->Option Bool
 | none=>F true
 | some (g,b)=>match AQ ops g with
  | some o=>match o.dst with
   | some t=>match lk l t with
    | some (.bool x)=>F (x==b)
    | some (.tuple _)=>F false
    | _=>O
   | none=>O
  | none=>O
theorem Di {n:Nat} {ds:List Deferred} {l:Env} {a:Act} {ops:Array Oper} {o:Oper} {b:Bool} (h:Kn n ds l a) (hw:D0 ops.toList l o.guard=F b):Region.wanted o (yielded ops a.tmps)=b:=by
 unfold Region.wanted;cases hg:o.guard with
 | none=>rw[hg] at hw;cases hw;rfl
 | some p=>
  obtain⟨g,want⟩:=p;rw[hg] at hw;unfold D0 at hw;try dsimp only at hw
  rw[EV,Array.getElem?_toList] at hw;unfold yielded;cases ho:ops[g]? with
  | none=>rw[ho] at hw;cases hw
  | some og=>
   rw[ho] at hw;try dsimp only at hw
   skip
   cases hd:og.dst with
   | none=>rw[hd] at hw;cases hw
   | some t=>
    rw[hd] at hw;try dsimp only at hw
    try dsimp only
    cases hl:lk l t with
    | none=>rw[hl] at hw;cases hw
    | some v=>
     rw[hl] at hw;have hv:=h.get t v hl;cases v with
     | bool x=>
      cases hw
      have:a.tmps[t]? =F (.bool x):=by
       rw[Array.getD_eq_getD_getElem?] at hv;cases ha:a.tmps[t]? with
       | none=>rw[ha] at hv;cases hv
       | some u=>rw[ha] at hv;exact congrArg F hv
      simp only[ho,hd,Option.bind_some,this]
      cases x<;>cases want<;>rfl
     | tuple xs=>
      cases hw
      rw[Array.getD_eq_getD_getElem?] at hv;cases ha:a.tmps[t]? with
      | none=>simp only[ho,hd,Option.bind_some,ha];rfl
      | some u=>
       rw[ha] at hv;obtain rfl:u=.tuple xs:=hv;simp only[ho,hd,Option.bind_some,ha];rfl
     | _=>cases hw
theorem Ew (ops:Array Oper) (pl:List Nat):(lst ops pl).size=ops.size:=by simp[lst]
theorem JP {ops:Array Oper} {pl:List Nat} {i:Nat} (h:i<ops.size):(lst ops pl)[i]? =F (!pl.contains i):=by
 simp[lst,h]
theorem FC {ops:Array Oper} {pl:List Nat} {i:Nat} (h:pl.contains i=false):(lst ops (i::pl)).setIfInBounds i true=lst ops pl:=by
 apply Array.ext_getElem?;intro j;by_cases hj:j<ops.size
 ·by_cases e:i=j
  ·subst e;rw[Array.getElem?_setIfInBounds_self_of_lt (by rw[Ew];exact hj),JP hj,h];rfl
  ·rw[Array.getElem?_setIfInBounds_ne e,JP hj,JP hj];congr 2;simp[Ne.symm e]
 ·rw[Array.getElem?_eq_none (by rw[Array.size_setIfInBounds,Ew];omega),Array.getElem?_eq_none (by rw[Ew];omega)]
section
variable {P:Program} {Fz:Fence} {Qr:Exit->Act->Y->Prop} {n:Nat} {ds:List Deferred} {d:Bool} {ops:Array Oper} {K:Act->Y->Prop} {i:Nat} {pl pend:List Nat} {S S':Y->Prop} {l l':Env}
theorem Qf (h:Ov P d ops n (i::pl)=true):Ov P d ops n pl=true/\∃ o,ops[i]? =F o/\JO n o=true:=by
 unfold Ov at*
 cases d with
 | true=>
  dsimp only at*
  rw[Bool.and_eq_true] at*
  obtain⟨h1,h2⟩:=h;unfold okL at h1;rw[Bool.and_eq_true] at h1;refine⟨⟨h1.2,h2⟩,?_⟩;have h3:=h1.1;cases ho:ops[i]? with
  | none=>rw[ho] at h3;cases h3
  | some o=>rw[ho] at h3;simp only[Bool.and_eq_true] at h3;exact⟨o,rfl,h3.1.1.1⟩
 | false=>
  dsimp only at*
  unfold okF at h;rw[Bool.and_eq_true] at h;refine⟨h.2,?_⟩;have h3:=h.1;cases ho:ops[i]? with
  | none=>rw[ho] at h3;cases h3
  | some o=>rw[ho] at h3;exact⟨o,rfl,h3⟩
theorem VU {o:Oper} (h:okL P ops n (i::pl)=true) (ho:ops[i]? =F o):pl.contains i=false/\(quiet P o.op=true->i∈Region.ready .any ops (lst ops (i::pl))/\Region.free .any ops (lst ops (i::pl)) i=true)∧
  (quiet P o.op=false->Region.ready .any ops (lst ops (i::pl))=[i])/\∀ m,(lst ops (i::pl)).getD m false=true->DA ops m i=false:=by
 unfold okL at h;rw[Bool.and_eq_true,ho] at h;have h1:=h.1;simp only[Bool.and_eq_true,Bool.not_eq_true',List.all_eq_true,List.mem_range,Bool.or_eq_true] at h1;obtain⟨⟨⟨_,h2⟩,h3⟩,h4⟩:=h1;refine⟨h2,fun e=>?_,fun e=>?_,fun m hm=>?_⟩
 ·rw[e] at h3;simpa using h3
 ·rw[e] at h3;simpa using h3
 ·have hlt:m<ops.size:=by
   rcases Nat.lt_or_ge m ops.size with h' | h'
   ·exact h'
   ·rw[Array.getD_eq_getD_getElem?,Array.getElem?_eq_none (by rw[Ew];exact h')] at hm;cases hm
  rcases h4 m hlt with h5 | h5
  ·rw[h5] at hm;cases hm
  ·exact h5
def addl (l:Env):Option Nat->Value->Env
 | some t,v=>(t,v)::l
 | none,_=>l
theorem Kn.addl {a:Act} {o:Oper} (h:Kn n ds l a) (hd:JO n o=true) (v:Value):Kn n ds (addl l o.dst v) (a.put o.dst v):=by
 unfold JO at hd;cases ho:o.dst with
 | none=>exact h
 | some t=>rw[ho] at hd;exact h.put (of_decide_eq_true hd) v
theorem IG {m:Nat} {o:Oper} (ho:ops[m]? =F o):DA ops m i=false↔∀ e∈o.after,Region.binds .any e=true->e.on≠i:=by
 unfold DA;rw[ho];dsimp only
 rw[Array.any_eq_false'];constructor
 ·intro h e he hb heq;have:=h e he;rw[hb,heq] at this;simp at this
 ·intro h e he;have:=h e he;cases hb:Region.binds .any e
  ·simp
  ·simp[this hb]
theorem R.take {o:Oper} {v:Value} {wt:Bool} (b:Bool) (ho:AQ ops.toList i=F o) (hg:D0 ops.toList l o.guard=F wt) (hq:quiet P o.op=true) (hv:if wt=true then ∀ a w,Kn n ds l a->(b=true->S w)->(execOp a.eval o).run P w=.ok (.value v) w else v=undef)
  (h:Rj P n ds d ops K pl (bif b then i::pend else pend) S (addl l o.dst v)):Rj P n ds d ops K (i::pl) pend S l:=by
 intro hok;obtain⟨hok',o',ho',hd⟩:=Qf hok;rw[EV,Array.getElem?_toList] at ho;rw[ho] at ho';cases ho'
 have h:=h hok';have hsub:∀ k,k∈pend->k∈(bif b then i::pend else pend):=fun k hk=>by
  cases b
  ·exact hk
  ·exact List.mem_cons_of_mem _ hk
 cases d with
 | false=>
  dsimp only at h |-;intro a w ha hw;unfold QE Ms;rw[ho];dsimp only
  rw[Di ha hg];cases wt with
  | true=>
   rw[if_pos rfl] at hv |-;unfold FI;rw[hv a w ha (fun _=>hw)];exact h _ w (ha.addl hd v) hw
  | false=>
   rw[if_neg (by simp)] at hv |-;subst hv;exact h _ w (ha.addl hd _) hw
 | true=>
  dsimp only at h |-;intro Rs hRs a w ha hw;unfold Ov at hok;rw[Bool.and_eq_true] at hok;obtain⟨hcn,hrf,_,hlw⟩:=VU hok.1 ho;obtain⟨hr,hf⟩:=hrf hq;have hin:=h (fun j w=>(j∈pend->Rs j w)/\(j=i->wt=true->∀ a,Kn n ds l a->(execOp a.eval o).run P w=.ok (.value v) w))
   (fun j _ w hw=>⟨fun hj'=>hRs j hj' w hw,fun _ ht a ha=>by rw[ht,if_pos rfl] at hv;exact hv a w ha (fun _=>hw)⟩) (a.put o.dst v) w (ha.addl hd v) hw
  rw[<- FC hcn] at hin;have hm:∀ m om,ops[m]? =F om->(lst ops (i::pl)).getD m false=true->∀ e∈om.after,Region.binds .any e=true->e.on≠i:=fun m om hom hl=>(IG hom).1 (hlw m hl);have hwt:=Di ha hg;refine FT (fun _=>True) (fun _ _ _=>trivial) (fun L w _ hT k hk hmm=>(hT k (hsub k hk) hmm).1 hk) _ _ _ _ trivial
   (JI (Zz:=fun w=>wt=true->∀ a,Kn n ds l a->(execOp a.eval o).run P w=.ok (.value v) w) ho (fun L w hT hm=>?_)
    (fun L w=>?_) (Region.noSelect_spec hok.2) _ _ _ _ (Region.free_spec ho hf) hr hm ?_ ?_ hin)
  ·intro ht a ha;cases b with
   | true=>exact(hT i (List.mem_cons_self ..) (fun m om hom _ hl=>(IG hom).2 (hm m om hom hl))).2 rfl ht a ha
   | false=>rw[ht,if_pos rfl] at hv;exact hv a w ha (fun e=>by cases e)
  ·constructor
   ·intro hT k hk hmm;refine hT k hk (fun m om hom hqm hl=>?_);by_cases e:i=m
    ·subst e;rw[ho] at hom;cases hom;rw[hq] at hqm;cases hqm
    ·rw[getD_set_ne false e] at hl;exact hmm m om hom hqm hl
   ·intro hT k hk hmm;exact hT k hk (fun m om hom hqm hl=>hmm m om hom hqm (getD_set_true hl))
  ·cases wt with
   | true=>exact .inl ⟨hwt,fun w hz=>hz rfl a ha⟩
   | false=>rw[if_neg (by simp)] at hv;exact .inr ⟨hwt,hv⟩
  ·intro k hk hmm;refine⟨fun hk'=>hRs k hk' w hw,fun _ ht a ha=>?_⟩;rw[ht,if_pos rfl] at hv;exact hv a w ha (fun _=>hw)
theorem R.takeP {o:Oper} {v:Value} {wt:Bool} (ho:AQ ops.toList i=F o) (hg:D0 ops.toList l o.guard=F wt) (hq:quiet P o.op=true) (hv:if wt=true then ∀ a w,Kn n ds l a->(execOp a.eval o).run P w=.ok (.value v) w else v=undef)
  (h:Rj P n ds d ops K pl pend S (addl l o.dst v)):Rj P n ds d ops K (i::pl) pend S l:=
 R.take false ho hg hq (by cases wt with | true=>rw[if_pos rfl] at hv |-;exact fun a w ha _=>hv a w ha | false=>rw[if_neg (by simp)] at hv |-;exact hv) h
theorem R.takeS {o:Oper} {v:Value} (ho:AQ ops.toList i=F o) (hg:D0 ops.toList l o.guard=F true) (hq:quiet P o.op=true) (hv:∀ a w,Kn n ds l a->S w->(execOp a.eval o).run P w=.ok (.value v) w)
  (h:Rj P n ds d ops K pl (i::pend) S (addl l o.dst v)):Rj P n ds d ops K (i::pl) pend S l:=
 R.take true ho hg hq (by rw[if_pos rfl];exact fun a w ha hw=>hv a w ha (hw rfl)) h
def Wq {ι:Type} (d:Bool) (ops:Array Oper) (i:Nat) (pend pend':List Nat) (Si:ι->Y->Prop) (S:Y->Prop):Prop:=
 (d=false/\pend'=[])\/(pend'=[]/\pend.all (DA ops i)=true)\/(pend'=pend/\∀ x w,Si x w->S w)
theorem R.eff {ι:Type} {o:Oper} {Si:ι->Y->Prop} {li:ι->Env} {pend':List Nat} (ho:AQ ops.toList i=F o) (hg:D0 ops.toList l o.guard=F true) (hq:quiet P o.op=false)
  (he:∀ a w (K':Act->Y->Prop),Kn n ds l a->(∀ v,Kn n ds (addl l o.dst v) (a.put o.dst v))->S w->(∀ x v w',Si x w'->Kn n ds (li x) (a.put o.dst v)->K' (a.put o.dst v) w')->FI P o a w K')
  (hp:Wq d ops i pend pend' Si S) (h:∀ x,Rj P n ds d ops K pl pend' (Si x) (li x)):Rj P n ds d ops K (i::pl) pend S l:=by
 intro hok;obtain⟨hok',o',ho',hd⟩:=Qf hok;rw[EV,Array.getElem?_toList] at ho;rw[ho] at ho';cases ho'
 have h:=fun x=>h x hok';cases d with
 | false=>
  dsimp only at h |-;intro a w ha hw;unfold QE Ms;rw[ho];dsimp only
  rw[Di ha hg,if_pos rfl];exact he a w _ ha (ha.addl hd) hw (fun x v w' hs hk=>h x _ w' hk hs)
 | true=>
  dsimp only at h |-;intro Rs hRs a w ha hw;unfold Ov at hok;rw[Bool.and_eq_true] at hok;obtain⟨hcn,_,hre,_⟩:=VU hok.1 ho;have hr:=hre hq;have hlt:i<ops.size:=(Gl ho)
  have hget:((lst ops (i::pl)).setIfInBounds i true).getD i false=true:=by
   rw[Array.getD_eq_getD_getElem?,Array.getElem?_setIfInBounds_self_of_lt (by rw[Ew];exact hlt)];rfl
  refine⟨(fun h0=>by rw[hr] at h0;cases h0),?_⟩;rw[hr];intro j hj;obtain rfl:j=i:=by simpa using hj
  unfold Ms;rw[ho];dsimp only
  rw[Di ha hg,if_pos rfl];refine he a w _ ha (ha.addl hd) hw (fun x v w' hs hk=>?_);rcases hp with ⟨hp,_⟩ | ⟨rfl,hp⟩ | ⟨rfl,hp⟩
  ·cases hp
  rotate_left
  ·have:=h x Rs (fun j hj w hw=>hRs j hj w (hp x w hw)) _ w' hk hs;rw[<- FC hcn] at this;exact⟨fun k hk _=>hRs k hk w' (hp x w' hs),this⟩
  ·have:=h x Rs (fun j hj=>by cases hj) _ w' hk hs;rw[<- FC hcn] at this;have hall:∀ L w,L.getD j false=true->Tm P ops Rs pend L w:=fun L w hL k hk hmm=>by
    have h1:=hmm j o ho hq hL;have h2:=List.all_eq_true.1 hp k hk;rw[h1] at h2;cases h2
   exact⟨hall _ _ hget,FT (fun L=>L.getD j false=true) (fun L i h=>getD_set_true h) (fun L w hL _=>hall L w hL) _ _ _ _ hget this⟩
theorem R.ux {o:Oper} (ho:AQ ops.toList i=F o) (hg:D0 ops.toList l o.guard=F false) (hq:quiet P o.op=false) (h:Rj P n ds d ops K pl pend S (addl l o.dst undef)):Rj P n ds d ops K (i::pl) pend S l:=by
 intro hok;obtain⟨hok',o',ho',hd⟩:=Qf hok;rw[EV,Array.getElem?_toList] at ho;rw[ho] at ho';cases ho'
 have h:=h hok';cases d with
 | false=>
  dsimp only at h |-;intro a w ha hw;unfold QE Ms;rw[ho];dsimp only
  rw[Di ha hg,if_neg (by simp)];exact h _ w (ha.addl hd _) hw
 | true=>
  dsimp only at h |-;intro Rs hRs a w ha hw;unfold Ov at hok;rw[Bool.and_eq_true] at hok;obtain⟨hcn,_,hre,_⟩:=VU hok.1 ho;have hr:=hre hq;refine⟨(fun h0=>by rw[hr] at h0;cases h0),?_⟩;rw[hr];intro j hj;obtain rfl:j=i:=by simpa using hj
  unfold Ms;rw[ho];dsimp only
  rw[Di ha hg,if_neg (by simp)];have:=h Rs hRs _ w (ha.addl hd _) hw;rw[<- FC hcn] at this;exact⟨fun k hk _=>hRs k hk w hw,this⟩
theorem R.done (h:∀ a w,Kn n ds l a->S w->K a w):Rj P n ds d ops K [] pend S l:=by
 intro hok;cases d with
 | false=>exact fun a w ha hw=>h a w ha hw
 | true=>
  intro Rs hRs a w ha hw;refine⟨?_,h a w ha hw⟩;cases hr:Region.ready .any ops (lst ops []) with
  | nil=>rfl
  | cons j _=>
   have hj:j∈Region.ready .any ops (lst ops []):=by rw[hr];exact List.mem_cons_self ..
   obtain⟨h0,o,ho,_⟩:=mem_ready.1 hj;rw[Array.getD_eq_getD_getElem?,JP (Gl ho)] at h0;cases h0
theorem Kn.re {a:Act} {t:Nat} {v v':Value} (h:Kn n ds l a) (hv:lk l t=F v) (e:v=v'):Kn n ds ((t,v')::l) a:=⟨h.size,h.defers,fun s u hs=>by
 rw[Mw] at hs;split at hs
 ·rename_i e';subst e';cases hs;rw[<- e];exact h.get _ _ hv
 ·exact h.get _ _ hs⟩
theorem R.re (t:Nat) {v v':Value} (e:v=v') (h:Rj P n ds d ops K pl pend S ((t,v')::l)) (hv:lk l t=F v:=by rfl):Rj P n ds d ops K pl pend S l:=by
 intro hok;have h:=h hok;cases d with
 | false=>exact fun a w ha hw=>h a w (ha.re hv e) hw
 | true=>exact fun Rs hRs a w ha hw=>h Rs hRs a w (ha.re hv e) hw
theorem V.re {k:List KL} (t:Nat) {v v':Value} (e:v=v') (h:V P Fz Qr n ds k S ((t,v')::l)) (hv:lk l t=F v:=by rfl):V P Fz Qr n ds k S l:=fun a w ha hw=>h a w (ha.re hv e) hw
theorem R.yes (t:Nat) {p:Prop} {hd:Decidable p} (e:p) (h:Rj P n ds d ops K pl pend S ((t,.bool true)::l)) (hv:lk l t=F (.bool (@decide p hd)):=by rfl):Rj P n ds d ops K pl pend S l:=R.re t (by rw[decide_eq_true e]) h hv
theorem R.no (t:Nat) {p:Prop} {hd:Decidable p} (e:¬p) (h:Rj P n ds d ops K pl pend S ((t,.bool false)::l)) (hv:lk l t=F (.bool (@decide p hd)):=by rfl):Rj P n ds d ops K pl pend S l:=R.re t (by rw[decide_eq_false e]) h hv
theorem R.is (t:Nat) {b c:Bool} (e:b=c) (h:Rj P n ds d ops K pl pend S ((t,.bool c)::l)) (hv:lk l t=F (.bool b):=by rfl):Rj P n ds d ops K pl pend S l:=R.re t (by rw[e]) h hv
theorem R.z {k:List KL}:(V P Fz Qr n ds k S l)->Rj P n ds d ops (td P Fz Qr O k) [] pend S l:=fun h=>
 R.done h
class Dr (S:Y->Prop):Prop where
 drew:∀ w,S w->S w.drew
def okS (d:Bool) (ops:Array Oper) (pl:List Nat):Bool:=match d with
 | false=>pl==List.range ops.size
 | true=>pl.length==ops.size&&(List.range ops.size).all pl.contains
theorem Xy (h:okS true ops pl=true):lst ops pl=Array.replicate ops.size false/\pl.length=ops.size:=by
 unfold okS at h;simp only[Bool.and_eq_true,beq_iff_eq,List.all_eq_true,List.mem_range] at h;refine⟨Array.ext_getElem? fun j=>?_,h.1⟩;by_cases hj:j<ops.size
 ·rw[JP hj,h.2 j hj,Array.getElem?_replicate,if_pos hj];rfl
 ·rw[Array.getElem?_eq_none (by rw[Ew];omega),Array.getElem?_eq_none (by rw[Array.size_replicate];omega)]
theorem V.regp [Dr S] {k k':List KL} {id:Nat} (pl:List Nat) (hF:Ng Fz) (hm:P.follows .mixedOrders=true) (h:IP 400 O k=.reg id ops d k') (hok:(Ov P d ops n pl&&okS d ops pl&&Gc ops)=true)
  (hr:Rj P n ds d ops (td P Fz Qr O k') pl [] S l):V P Fz Qr n ds k S l:=V.at h fun a w ha hw=>by
 rw[Bool.and_eq_true,Bool.and_eq_true] at hok;obtain⟨⟨h1,h2⟩,h3⟩:=hok;have hr:=hr h1;show(Code.region id ops d).wpIn Fz 0 P _ a w;cases d with
 | false=>
  dsimp only at hr;obtain rfl:pl=List.range ops.size:=by simpa[okS] using h2
  exact wpIn_region (Xp hF h3 (fun a w h=>h) _ _ _ (hr a w ha hw))
 | true=>
  dsimp only at hr;obtain⟨hl,hn⟩:=Xy h2;have:=hr (fun _ _=>True) (fun _ hj=>by cases hj) a w.drew ha (Dr.drew w hw);rw[hl,hn] at this;exact wpIn_region_any hm (KS hF h3 (fun a w h=>h) _ _ _ _ this)
end
def nums:List Nat:=[0,1,2,3,4,5,6,7,8,9,10,11,12,13,14,15,16,17,18,19,20,21,22,23,24,25,26,27,28,29,30,31,32,33,34,35,36,37,38,39,40,41,42,43,44,45,46,47,48,49]++[50,51,52,53,54,55,56,57,58,59,60,61,62,63,64,65,66,67,68,69,70,71,72,73,74,75,76,77,78,79,80,81,82,83,84,85,86,87,88,89,90,91,92,93,94,95,96,97,98,99]
def upto:List Oper->List Nat->List Nat
 | _::os,i::is=>i::upto os is
 | _,_=>[]
def seen:List Oper->List Nat->List (Nat×Bool×List Nat)->List (Nat×Bool×List Nat)
 | o::os,i::is,acc=>seen os is ((i,Oh o.op,(o.after.toList.filter (Region.binds .any)).map (·.on))::acc)
 | _,_,acc=>acc
def mem (i:Nat):List Nat->Bool
 | []=>false
 | j::l=>bif Nat.beq i j then true else mem i l
def Agw (L:List Nat):List Nat->Bool
 | []=>true
 | i::is=>bif mem i L then Agw L is else false
def pick (q:Bool) (L:List Nat):List (Nat×Bool×List Nat)->Option Nat
 | []=>O
 | (i,b,ws)::r=>bif mem i L then pick q L r else bif (b||q) then (bif Agw L ws then F i else pick q L r) else pick q L r
def Wh (ops:List (Nat×Bool×List Nat)):Nat->List Nat->Option (List Nat)
 | 0,L=>F L.reverse
 | n+1,L=>match pick false L ops with
  | some i=>Wh ops n (i::L)
  | none=>match pick true L ops with
   | some i=>Wh ops n (i::L)
   | none=>O
def pln (d:Bool) (ops:Array Oper):Option (List Nat):=match d with
 | false=>F (upto ops.toList nums)
 | true=>Wh (seen ops.toList nums []).reverse ops.size []
theorem V.reg {P:Program} {Fz:Fence} {Qr:Exit->Act->Y->Prop} {n:Nat} {ds:List Deferred} {d:Bool} {ops:Array Oper} {pl:List Nat} {S:Y->Prop} {l:Env} [Dr S] {k k':List KL} {id:Nat} (hF:Ng Fz) (h:IP 400 O k=.reg id ops d k':=by rfl) (hp:pln d ops=F pl:=by rfl) (hm:P.follows .mixedOrders=true:=by kernel_rfl) (hok:(Ov P d ops n pl&&okS d ops pl&&Gc ops)=true:=by kernel_rfl):(Rj P n ds d ops (td P Fz Qr O k') pl [] S l)->V P Fz Qr n ds k S l:=fun hr=>
 V.regp pl hF hm h hok hr
end
end Go.Proofs.YtdpppepmkeinaaaGreatDoor
