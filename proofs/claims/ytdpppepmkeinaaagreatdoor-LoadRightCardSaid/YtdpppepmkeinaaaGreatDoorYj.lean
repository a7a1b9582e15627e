/- What is proved: a part of the walk of the program and of its plain laws; no condition beside those that each theorem names. -/
import Derived.Test.YtdpppepmkeinaaaGreatDoorYi
import Derived.Test.YtdpppepmkeinaaaGreatDoorYa
import Derived.WalkKit
import Derived.IntWalk
import Derived.RangeFuncLeaves
import Derived.Scope
namespace Go.Proofs.YtdpppepmkeinaaaGreatDoor
open Go Go.RowKit Go.Lib
open Go.Value renaming int->I,string->Q,slice->Z
open Go.IntKind renaming i64->J
open Option renaming none->O,some->F
open _root_.Go renaming World->Y
set_option linter.unusedSimpArgs false
set_option linter.unusedVariables false
set_option linter.unusedSectionVars false
section
def Aw:List Oper->Nat->Option Oper
 | [],_=>O
 | o::_,0=>F o
 | _::os,n+1=>Aw os n
theorem DB:∀ (os:List Oper) (n:Nat),Aw os n=os[n]?
 | [],n=>by simp[Aw]
 | a::os,0=>by simp[Aw]
 | a::os,n+1=>by simpa[Aw] using DB os n
def quiet (P:Program):Op->Bool
 | .call {callee:=.builtin b,..}=>match b with | .len | .cap | .min | .max=>true | _=>false
 | .convert _ d _=>match P.underlying d with | some (.int _)=>true | _=>false
 | .move _ | .assign _ | .pick .. | .build .. | .load .. | .nilCheck _ | .binOp .. | .unOp .. | .makeInterface .. | .makeFunc .. | .slice .. | .fieldAddr .. | .field .. | .indexAddr .. | .index .. | .lookup .. | .typeAssert .. | .extract .. =>true
 | _=>false
def KR:Op->Bool
 | .convert .. =>true
 | .call {callee:=.builtin b,..}=>match b with | .len | .cap | .min | .max=>true | _=>false
 | .move _ | .assign _ | .pick .. | .build .. | .load .. | .nilCheck _ | .binOp .. | .unOp .. | .makeInterface .. | .makeFunc .. | .slice .. | .fieldAddr .. | .field .. | .indexAddr .. | .index .. | .lookup .. | .typeAssert .. | .extract .. =>true
 | _=>false
def Cp (ops:Array Oper) (m i:Nat):Bool:=match ops[m]? with
 | some o=>o.after.any fun e=>Region.binds .any e&&e.on==i
 | none=>false
def lst (ops:Array Oper) (pl:List Nat):Array Bool:=((List.range ops.size).map fun i=> !pl.contains i).toArray
def Il (n:Nat) (o:Oper):Bool:=match o.dst with
 | some d=>decide (d<n)
 | none=>true
def okL (P:Program) (ops:Array Oper) (n:Nat):List Nat->Bool
 | []=>true
 | i::pl=>(match ops[i]? with
  | some o=>Il n o&& !pl.contains i&&(if quiet P o.op then (Region.ready .any ops (lst ops (i::pl))).contains i&&Region.free .any ops (lst ops (i::pl)) i else Region.ready .any ops (lst ops (i::pl))==[i])&&((List.range ops.size).all fun m=> !(lst ops (i::pl)).getD m false|| !Cp ops m i)
  | none=>false)&&okL P ops n pl
def okF (ops:Array Oper) (n:Nat):List Nat->Bool
 | []=>true
 | i::pl=>(match ops[i]? with
  | some o=>Il n o
  | none=>false)&&okF ops n pl
def M7 (P:Program) (d:Bool) (ops:Array Oper) (n:Nat) (pl:List Nat):Bool:=match d with
 | true=>okL P ops n pl&&Region.noSelect ops
 | false=>okF ops n pl
def Eo (P:Program) (o:Oper) (a:Act) (w:Y) (K:Act->Y->Prop):Prop:=match (execOp a.eval o).run P w with
 | .ok (.value v) w'=>K (a.put o.dst v) w'
 | .ok .skip w'=>K (a.put o.dst undef) w'
 | .ok (.enter f args) w'=>Calls P f args w' fun e w''=>∃ v,e=.returned v/\K (a.put o.dst v) w''
 | .ok (.row row args) w'=>Rows P row args w' fun v w''=>K (a.put o.dst v) w''
 | .ok (.round l f tmps x y) w'=>RoundIn Fence.wide 0 P l f tmps x y w' fun e w''=>∃ v,e=.returned v/\K (a.put o.dst v) w''
 | _=>False
def K5 (P:Program) (ops:Array Oper) (i:Nat) (K:Act->Y->Prop) (a:Act) (w:Y):Prop:=match ops[i]? with
 | none=>K a w
 | some o=>if Region.wanted o (yielded ops a.tmps)=true then Eo P o a w K else K (a.put o.dst undef) w
def Ou (P:Program) (ops:Array Oper) (K:Act->Y->Prop):List Nat->Act->Y->Prop
 | [],a,w=>K a w
 | i::r,a,w=>K5 P ops i (Ou P ops K r) a w
def LZ (Fz:Fence):Prop:=Fz=Fence.wide\/∃ l,Fz=Fence.wide.inRound l
def E1 (ops:Array Oper):Bool:=ops.all fun o=>match o.op with | .defer _=>false | _=>true
section
variable {P:Program} {ops:Array Oper} {md:Region.Mode} {S S':Array Bool->Y->Prop} {Fz:Fence} {K K':Act->Y->Prop}
theorem ZG {o:Oper} {a:Act} {w:Y} (h:Eo P o a w K) (hk:∀ a w,K a w->K' a w):Eo P o a w K':=by
 unfold Eo at*
 split at h
 ·exact hk _ _ h
 ·exact hk _ _ h
 ·exact Calls.mono h fun e w ⟨v,he,h⟩=>⟨v,he,hk _ _ h⟩
 ·exact Rows.mono h fun v w h=>hk _ _ h
 ·exact RoundIn.mono h fun e w ⟨v,he,h⟩=>⟨v,he,hk _ _ h⟩
 ·exact h.elim
theorem L1 {i:Nat} {a:Act} {w:Y} (h:K5 P ops i K a w) (hk:∀ a w,K a w->K' a w):K5 P ops i K' a w:=by
 unfold K5 at*
 split
 ·rename_i e;rw[e] at h;exact hk _ _ h
 ·rename_i e;rw[e] at h;dsimp only at h;split
  ·rename_i hw;rw[if_pos hw] at h;exact ZG h hk
  ·rename_i hw;rw[if_neg hw] at h;exact hk _ _ h
theorem M8 (h:E1 ops=true) (i:Nat) (o:Oper) (c:Call) (ho:ops[i]? =F o):o.op≠ .defer c:=by
 intro e;obtain⟨hlt,hg⟩:=Array.getElem?_eq_some_iff.1 ho;have:=Array.all_eq_true.1 h i hlt;rw[hg,e] at this;cases this
theorem Ag4 {o:Oper} {a:Act} {w:Y} {Qz:Exit->Act->Y->Prop} (hF:LZ Fz) (hd:∀ c,o.op≠ .defer c) (h:Eo P o a w K):o.wpIn Fz 0 P a w K Qz:=by
 have key:∀ Fz:Fence,(∀ f,Fz.fn f)->Fz.depth.isSome=false->(∀ f args w R,Calls P f args w R->CallsIn Fz 0 P f args w R)->(∀ row args w R,Rows P row args w R->RowsIn Fz 0 P row args w R)→
   (∀ l f t x y w R,RoundIn Fence.wide 0 P l f t x y w R->RoundIn Fz 0 P l f t x y w R)->o.wpIn Fz 0 P a w K Qz:=by
  intro Fz hfn hdep hc hr hy;unfold Eo at h;unfold Oper.wpIn;refine⟨fun f _=>hfn f,?_⟩;rw[Oper.semAt_eq _ _ _ hd];generalize (execOp a.eval o).run P w=r at*
  cases r with
  | ok x w'=>
   cases x<;>dsimp only[Oper.uponIn] at h |-
   case value v=>exact h
   case skip=>exact h
   case enter f args=>exact⟨(fun hh=>by rw[hdep] at hh;cases hh),CallsIn.mono (hc _ _ _ _ h) fun e w ⟨v,he,h⟩=>by subst he;exact h⟩
   case row row args=>exact⟨(fun hh=>by rw[hdep] at hh;cases hh),hr _ _ _ _ h⟩
   case round l f t x y=>exact⟨(fun hh=>by rw[hdep] at hh;cases hh),RoundIn.mono (hy _ _ _ _ _ _ _ h) fun e w ⟨v,he,h⟩=>by subst he;exact h⟩
   all_goals exact h.elim
  | halt x w'=>exact h.elim
 rcases hF with rfl | ⟨l,rfl⟩
 ·exact key _ (fun _=>trivial) rfl (fun f args w R h=>callsIn_wide.2 h) (fun row args w R h c cs _=>let ⟨v,w',r,s⟩:=h c cs;⟨v,w',r,stepsIn_wide.2 s⟩) (fun _ _ _ _ _ _ _ h=>h)
 ·exact key _ (fun _=>trivial) rfl (fun f args w R h=>CallsIn.inRound l (callsIn_wide.2 h)) (fun row args w R h c cs _=>let ⟨v,w',r,s⟩:=h c cs;⟨v,w',r,stepsIn_wide.2 s⟩) (fun _ _ _ _ _ _ _ h=>h)
theorem Z6 {i:Nat} {a:Act} {w:Y} {Qz:Exit->Act->Y->Prop} (hF:LZ Fz) (hd:E1 ops=true) (h:K5 P ops i K a w):wpOpIn Fz 0 P ops Qz i K a w:=by
 unfold K5 at h;unfold wpOpIn;cases ho:ops[i]? with
 | none=>rw[ho] at h;exact h
 | some o=>
  rw[ho] at h;dsimp only at h |-;split
  ·rename_i hw;rw[if_pos hw] at h;exact Ag4 hF (M8 hd i o · ho) h
  ·rename_i hw;rw[if_neg hw] at h;exact⟨fun f _=>by rcases hF with rfl | ⟨l,rfl⟩<;>exact trivial,h⟩
theorem UW {Qz:Exit->Act->Y->Prop} (hF:LZ Fz) (hd:E1 ops=true) (hK:∀ a w,K a w->Qz .normal a w):∀ (pl:List Nat) (a:Act) (w:Y),Ou P ops K pl a w->wpOpsIn Fz 0 P ops Qz pl a w
 | [],a,w,h=>hK a w h
 | i::pl,a,w,h=>by
  have:=Z6 (Qz:=Qz) hF hd (L1 h (fun a w h=>UW hF hd hK pl a w h));unfold wpOpIn at this;unfold wpOpsIn;exact this
theorem Akz {j:Nat} {oi oj:Oper} {v:Value} {Zz:Y->Prop} (hj:ops[j]? =F oj) (hap:oi.apart ops oj=true) (hsi:∀ cs b,oi.op≠ .select cs b) (hsj:∀ cs b,oj.op≠ .select cs b)
  {a:Act} {w:Y} (hy:YieldsIf P ops Zz oi v a) (h:K5 P ops j K (a.put oi.dst v) w):K5 P ops j (fun a' w'=>YieldsIf P ops Zz oi v a'/\K (a'.put oi.dst v) w') a w:=by
 obtain⟨h1,h2,h3⟩:=Oper.apart_spec hap;have keep:∀ u,YieldsIf P ops Zz oi v (a.put oj.dst u):=fun u=>hy.of_same (execOp_put oi hsi a oj.dst u h3) (wanted_put oi a oj.dst u h3);unfold K5 at*
 rw[hj] at*
 dsimp only at*
 rw[wanted_put oj a oi.dst v h1] at h;split
 ·rename_i hw;rw[if_pos hw] at h;unfold Eo at*
  rw[execOp_put oj hsj a oi.dst v h1] at h;generalize (execOp a.eval oj).run P w=r at*
  cases r with
  | ok x w'=>
   cases x<;>dsimp only at h |-
   case value u=>exact⟨keep u,by rw[<- Act.put_comm a v u h2];exact h⟩
   case skip=>exact⟨keep _,by rw[<- Act.put_comm a v undef h2];exact h⟩
   case enter f args=>exact Calls.mono h fun e w'' ⟨u,he,hk⟩=>⟨u,he,keep u,by rw[<- Act.put_comm a v u h2];exact hk⟩
   case row row args=>exact Rows.mono h fun u w'' hk=>⟨keep u,by rw[<- Act.put_comm a v u h2];exact hk⟩
   case round l f t x y=>exact RoundIn.mono h fun e w'' ⟨u,he,hk⟩=>⟨u,he,keep u,by rw[<- Act.put_comm a v u h2];exact hk⟩
   all_goals exact h.elim
  | halt x w'=>exact h.elim
 ·rename_i hw;rw[if_neg hw] at h;exact⟨keep _,by rw[<- Act.put_comm a v undef h2];exact h⟩
theorem Lm {i:Nat} {o:Oper} {v:Value} {Zz:Y->Prop} {a:Act} {w:Y} (hi:ops[i]? =F o) (hy:YieldsIf P ops Zz o v a) (hz:Zz w) (h:K (a.put o.dst v) w):K5 P ops i K a w:=by
 unfold K5;rw[hi];dsimp only
 rcases hy with ⟨hw,hv⟩ | ⟨hw,rfl⟩
 ·rw[if_pos hw];unfold Eo;rw[hv w hz];exact h
 ·rw[if_neg (by rw[hw];simp)];exact h
def D6 (P:Program) (md:Region.Mode) (ops:Array Oper) (K:Act->Y->Prop) (S:Array Bool->Y->Prop):Nat->Array Bool->Act->Y->Prop
 | 0,listed,a,w=>Region.ready md ops listed=[]/\K a w
 | fuel+1,listed,a,w=>
  (Region.ready md ops listed=[]->K a w)∧
  ∀ i∈Region.ready md ops listed,K5 P ops i (fun a' w'=>S (listed.setIfInBounds i true) w'/\D6 P md ops K S fuel (listed.setIfInBounds i true) a' w') a w
theorem J8 {Qz:Exit->Act->Y->Prop} (hF:LZ Fz) (hd:E1 ops=true) (hK:∀ a w,K a w->Qz .normal a w):∀ (fuel:Nat) (listed:Array Bool) (a:Act) (w:Y),D6 P md ops K S fuel listed a w->wpAnyIn Fz 0 P md ops Qz fuel listed a w
 | 0,_,a,w,h=>⟨h.1,hK a w h.2⟩
 | fuel+1,_,a,w,h=>⟨fun e=>hK a w (h.1 e),fun i hi=>wpOpIn_mono (fun a' w' h'=>J8 hF hd hK fuel _ a' w' h'.2) (Z6 hF hd (h.2 i hi))⟩
theorem Er (T:Array Bool->Prop) (hT:∀ L i,T L->T (L.setIfInBounds i true)) (hs:∀ L w,T L->S L w->S' L w):∀ (fuel:Nat) (listed:Array Bool) (a:Act) (w:Y),T listed->D6 P md ops K S fuel listed a w->D6 P md ops K S' fuel listed a w
 | 0,_,_,_,_,h=>h
 | fuel+1,_,_,_,ht,h=>⟨h.1,fun i hi=>L1 (h.2 i hi) (fun a' w' h'=>⟨hs _ _ (hT _ _ ht) h'.1,Er T hT hs fuel _ a' w' (hT _ _ ht) h'.2⟩)⟩
theorem Ij {i:Nat} {oi:Oper} {v:Value} {Zz:Y->Prop} (hi:ops[i]? =F oi) (hZ:∀ L w,S L w->(∀ m o,ops[m]? =F o->L.getD m false=true->∀ e∈o.after,Region.binds md e=true->e.on≠i)->Zz w)
  (hsame:∀ L w,S (L.setIfInBounds i true) w↔S L w) (hsel:∀ (j:Nat) (o:Oper) cs b,ops[j]? =F o->o.op≠ .select cs b):
  ∀ (fuel:Nat) (listed:Array Bool) (a:Act) (w:Y),
   (∀ j oj,ops[j]? =F oj->j≠i->listed.getD j true=false->(∀ e∈oj.after,Region.binds md e=true->e.on≠i)->oi.apart ops oj=true)→
   i∈Region.ready md ops listed->(∀ m o,ops[m]? =F o->listed.getD m false=true->∀ e∈o.after,Region.binds md e=true->e.on≠i)->YieldsIf P ops Zz oi v a->S listed w→
   D6 P md ops K S fuel (listed.setIfInBounds i true) (a.put oi.dst v) w->D6 P md ops K S (fuel+1) listed a w:=by
 intro fuel;induction fuel with
 | zero=>
  intro listed a w _ hr hm hy hS H;refine⟨fun h=>(by rw[h] at hr;cases hr),fun j hj=>?_⟩;by_cases hji:j=i
  ·subst hji;exact Lm hi hy (hZ _ _ hS hm) ⟨(hsame _ _).2 hS,H⟩
  ·have:=ready_mono hj hji;rw[H.1] at this;cases this
 | succ fuel ih=>
  intro listed a w hfree hr hm hy hS H;refine⟨fun h=>(by rw[h] at hr;cases hr),fun j hj=>?_⟩;by_cases hji:j=i
  ·subst hji;exact Lm hi hy (hZ _ _ hS hm) ⟨(hsame _ _).2 hS,H⟩
  ·have h1:=H.2 j (ready_mono hj hji);obtain⟨hjun,oj,hoj,hall⟩:=mem_ready.1 hj;have hnot:∀ e∈oj.after,Region.binds md e=true->e.on≠i:=fun e he hb heq=>by
    have h1:=hall e he hb;have h0:=(mem_ready.1 hr).1;rw[heq] at h1;rcases Nat.lt_or_ge i listed.size with h' | h'
    ·simp[h'] at h0 h1;rw[h0] at h1;cases h1
    ·simp[Array.getElem?_eq_none h'] at h1
   have h2:=Akz hoj (hfree j oj hoj hji hjun hnot) (fun cs b=>hsel i oi cs b hi) (fun cs b=>hsel j oj cs b hoj) hy h1;have hfree':∀ k ok,ops[k]? =F ok->k≠i->(listed.setIfInBounds j true).getD k true=false→
     (∀ e∈ok.after,Region.binds md e=true->e.on≠i)->oi.apart ops ok=true:=fun k ok hk hki hun hno=>by
    refine hfree k ok hk hki ?_ hno;by_cases hjk:j=k
    ·subst hjk;exact hjun
    ·rw[getD_set_ne true hjk] at hun;exact hun
   refine L1 h2 (fun a' w' h3=>?_);have hS':S (listed.setIfInBounds j true) w':=by
    have:=h3.2.1;rw[Array.setIfInBounds_comm _ _ (Ne.symm hji)] at this;exact(hsame _ _).1 this
   refine⟨hS',ih (listed.setIfInBounds j true) a' w' hfree' (ready_mono hr (Ne.symm hji)) (fun m o ho hl=>?_) h3.1 hS' ?_⟩
   ·by_cases hjm:j=m
    ·subst hjm;rw[hoj] at ho;cases ho;exact hnot
    ·rw[getD_set_ne false hjm] at hl;exact hm m o ho hl
   ·rw[Array.setIfInBounds_comm _ _ hji];exact h3.2.2
end
def Tm (P:Program) (ops:Array Oper) (Rs:Nat->Y->Prop) (pend:List Nat) (L:Array Bool) (w:Y):Prop:=
 ∀ k,k∈pend->(∀ m o,ops[m]? =F o->quiet P o.op=false->L.getD m false=true->Cp ops m k=false)->Rs k w
def Rj (P:Program) (n:Nat) (ds:List Deferred) (d:Bool) (ops:Array Oper) (K:Act->Y->Prop) (pl pend:List Nat) (S:Y->Prop) (l:Env):Prop:=
 M7 P d ops n pl=true->match d with
 | false=>∀ a w,Kn n ds l a->S w->Ou P ops K pl a w
 | true=>∀ Rs:Nat->Y->Prop,(∀ j,j∈pend->∀ w,S w->Rs j w)->∀ a w,Kn n ds l a->S w->D6 P .any ops K (Tm P ops Rs pend) pl.length (lst ops pl) a w
def Cv (ops:List Oper) (l:Env):Option (Nat×Bool)->Option Bool
 | none=>F true
 | some (g,b)=>match Aw ops g with
  | some o=>match o.dst with
   | some t=>match lk l t with
    | some (.bool x)=>F (x==b)
    | some (.tuple _)=>F false
    | _=>O
   | none=>O
  | none=>O
theorem BY {n:Nat} {ds:List Deferred} {l:Env} {a:Act} {ops:Array Oper} {o:Oper} {b:Bool} (h:Kn n ds l a) (hw:Cv ops.toList l o.guard=F b):Region.wanted o (yielded ops a.tmps)=b:=by
 unfold Region.wanted;cases hg:o.guard with
 | none=>rw[hg] at hw;cases hw;rfl
 | some p=>
  obtain⟨g,want⟩:=p;rw[hg] at hw;unfold Cv at hw;try dsimp only at hw
  rw[DB,Array.getElem?_toList] at hw;unfold yielded;cases ho:ops[g]? with
  | none=>rw[ho] at hw;cases hw
  | some og=>
   rw[ho] at hw;try dsimp only at hw
   skip
   cases hd:og.dst with
   | none=>rw[hd] at hw;cases hw
   | some t=>
    rw[hd] at hw;try dsimp only at hw
    try dsimp only
    cases hl:lk l t with
    | none=>rw[hl] at hw;cases hw
    | some v=>
     rw[hl] at hw;have hv:=h.get t v hl;cases v with
     | bool x=>
      cases hw
      have:a.tmps[t]? =F (.bool x):=by
       rw[Array.getD_eq_getD_getElem?] at hv;cases ha:a.tmps[t]? with
       | none=>rw[ha] at hv;cases hv
       | some u=>rw[ha] at hv;exact congrArg F hv
      simp only[ho,hd,Option.bind_some,this]
      cases x<;>cases want<;>rfl
     | tuple xs=>
      cases hw
      rw[Array.getD_eq_getD_getElem?] at hv;cases ha:a.tmps[t]? with
      | none=>simp only[ho,hd,Option.bind_some,ha];rfl
      | some u=>
       rw[ha] at hv;obtain rfl:u=.tuple xs:=hv;simp only[ho,hd,Option.bind_some,ha];rfl
     | _=>cases hw
theorem CZ (ops:Array Oper) (pl:List Nat):(lst ops pl).size=ops.size:=by simp[lst]
theorem IL {ops:Array Oper} {pl:List Nat} {i:Nat} (h:i<ops.size):(lst ops pl)[i]? =F (!pl.contains i):=by
 simp[lst,h]
theorem Ef {ops:Array Oper} {pl:List Nat} {i:Nat} (h:pl.contains i=false):(lst ops (i::pl)).setIfInBounds i true=lst ops pl:=by
 apply Array.ext_getElem?;intro j;by_cases hj:j<ops.size
 ·by_cases e:i=j
  ·subst e;rw[Array.getElem?_setIfInBounds_self_of_lt (by rw[CZ];exact hj),IL hj,h];rfl
  ·rw[Array.getElem?_setIfInBounds_ne e,IL hj,IL hj];congr 2;simp[Ne.symm e]
 ·rw[Array.getElem?_eq_none (by rw[Array.size_setIfInBounds,CZ];omega),Array.getElem?_eq_none (by rw[CZ];omega)]
section
variable {P:Program} {Fz:Fence} {Qr:Exit->Act->Y->Prop} {n:Nat} {ds:List Deferred} {d:Bool} {ops:Array Oper} {K:Act->Y->Prop} {i:Nat} {pl pend:List Nat} {S S':Y->Prop} {l l':Env}
theorem Pj (h:M7 P d ops n (i::pl)=true):M7 P d ops n pl=true/\∃ o,ops[i]? =F o/\Il n o=true:=by
 unfold M7 at*
 cases d with
 | true=>
  dsimp only at*
  rw[Bool.and_eq_true] at*
  obtain⟨h1,h2⟩:=h;unfold okL at h1;rw[Bool.and_eq_true] at h1;refine⟨⟨h1.2,h2⟩,?_⟩;have h3:=h1.1;cases ho:ops[i]? with
  | none=>rw[ho] at h3;cases h3
  | some o=>rw[ho] at h3;simp only[Bool.and_eq_true] at h3;exact⟨o,rfl,h3.1.1.1⟩
 | false=>
  dsimp only at*
  unfold okF at h;rw[Bool.and_eq_true] at h;refine⟨h.2,?_⟩;have h3:=h.1;cases ho:ops[i]? with
  | none=>rw[ho] at h3;cases h3
  | some o=>rw[ho] at h3;exact⟨o,rfl,h3⟩
theorem Tt {o:Oper} (h:okL P ops n (i::pl)=true) (ho:ops[i]? =F o):pl.contains i=false/\(quiet P o.op=true->i∈Region.ready .any ops (lst ops (i::pl))/\Region.free .any ops (lst ops (i::pl)) i=true)∧
  (quiet P o.op=false->Region.ready .any ops (lst ops (i::pl))=[i])/\∀ m,(lst ops (i::pl)).getD m false=true->Cp ops m i=false:=by
 unfold okL at h;rw[Bool.and_eq_true,ho] at h;have h1:=h.1;simp only[Bool.and_eq_true,Bool.not_eq_true',List.all_eq_true,List.mem_range,Bool.or_eq_true] at h1;obtain⟨⟨⟨_,h2⟩,h3⟩,h4⟩:=h1;refine⟨h2,fun e=>?_,fun e=>?_,fun m hm=>?_⟩
 ·rw[e] at h3;simpa using h3
 ·rw[e] at h3;simpa using h3
 ·have hlt:m<ops.size:=by
   rcases Nat.lt_or_ge m ops.size with h' | h'
   ·exact h'
   ·rw[Array.getD_eq_getD_getElem?,Array.getElem?_eq_none (by rw[CZ];exact h')] at hm;cases hm
  rcases h4 m hlt with h5 | h5
  ·rw[h5] at hm;cases hm
  ·exact h5
def addl (l:Env):Option Nat->Value->Env
 | some t,v=>(t,v)::l
 | none,_=>l
theorem Kn.addl {a:Act} {o:Oper} (h:Kn n ds l a) (hd:Il n o=true) (v:Value):Kn n ds (addl l o.dst v) (a.put o.dst v):=by
 unfold Il at hd;cases ho:o.dst with
 | none=>exact h
 | some t=>rw[ho] at hd;exact h.put (of_decide_eq_true hd) v
theorem GH {m:Nat} {o:Oper} (ho:ops[m]? =F o):Cp ops m i=false↔∀ e∈o.after,Region.binds .any e=true->e.on≠i:=by
 unfold Cp;rw[ho];dsimp only
 rw[Array.any_eq_false'];constructor
 ·intro h e he hb heq;have:=h e he;rw[hb,heq] at this;simp at this
 ·intro h e he;have:=h e he;cases hb:Region.binds .any e
  ·simp
  ·simp[this hb]
theorem R.take {o:Oper} {v:Value} {wt:Bool} (b:Bool) (ho:Aw ops.toList i=F o) (hg:Cv ops.toList l o.guard=F wt) (hq:quiet P o.op=true) (hv:if wt=true then ∀ a w,Kn n ds l a->(b=true->S w)->(execOp a.eval o).run P w=.ok (.value v) w else v=undef)
  (h:Rj P n ds d ops K pl (bif b then i::pend else pend) S (addl l o.dst v)):Rj P n ds d ops K (i::pl) pend S l:=by
 intro hok;obtain⟨hok',o',ho',hd⟩:=Pj hok;rw[DB,Array.getElem?_toList] at ho;rw[ho] at ho';cases ho'
 have h:=h hok';have hsub:∀ k,k∈pend->k∈(bif b then i::pend else pend):=fun k hk=>by
  cases b
  ·exact hk
  ·exact List.mem_cons_of_mem _ hk
 cases d with
 | false=>
  dsimp only at h |-;intro a w ha hw;unfold Ou K5;rw[ho];dsimp only
  rw[BY ha hg];cases wt with
  | true=>
   rw[if_pos rfl] at hv |-;unfold Eo;rw[hv a w ha (fun _=>hw)];exact h _ w (ha.addl hd v) hw
  | false=>
   rw[if_neg (by simp)] at hv |-;subst hv;exact h _ w (ha.addl hd _) hw
 | true=>
  dsimp only at h |-;intro Rs hRs a w ha hw;unfold M7 at hok;rw[Bool.and_eq_true] at hok;obtain⟨hcn,hrf,_,hlw⟩:=Tt hok.1 ho;obtain⟨hr,hf⟩:=hrf hq;have hin:=h (fun j w=>(j∈pend->Rs j w)/\(j=i->wt=true->∀ a,Kn n ds l a->(execOp a.eval o).run P w=.ok (.value v) w))
   (fun j _ w hw=>⟨fun hj'=>hRs j hj' w hw,fun _ ht a ha=>by rw[ht,if_pos rfl] at hv;exact hv a w ha (fun _=>hw)⟩) (a.put o.dst v) w (ha.addl hd v) hw
  rw[<- Ef hcn] at hin;have hm:∀ m om,ops[m]? =F om->(lst ops (i::pl)).getD m false=true->∀ e∈om.after,Region.binds .any e=true->e.on≠i:=fun m om hom hl=>(GH hom).1 (hlw m hl);have hwt:=BY ha hg;refine Er (fun _=>True) (fun _ _ _=>trivial) (fun L w _ hT k hk hmm=>(hT k (hsub k hk) hmm).1 hk) _ _ _ _ trivial
   (Ij (Zz:=fun w=>wt=true->∀ a,Kn n ds l a->(execOp a.eval o).run P w=.ok (.value v) w) ho (fun L w hT hm=>?_)
    (fun L w=>?_) (Region.noSelect_spec hok.2) _ _ _ _ (Region.free_spec ho hf) hr hm ?_ ?_ hin)
  ·intro ht a ha;cases b with
   | true=>exact(hT i (List.mem_cons_self ..) (fun m om hom _ hl=>(GH hom).2 (hm m om hom hl))).2 rfl ht a ha
   | false=>rw[ht,if_pos rfl] at hv;exact hv a w ha (fun e=>by cases e)
  ·constructor
   ·intro hT k hk hmm;refine hT k hk (fun m om hom hqm hl=>?_);by_cases e:i=m
    ·subst e;rw[ho] at hom;cases hom;rw[hq] at hqm;cases hqm
    ·rw[getD_set_ne false e] at hl;exact hmm m om hom hqm hl
   ·intro hT k hk hmm;exact hT k hk (fun m om hom hqm hl=>hmm m om hom hqm (getD_set_true hl))
  ·cases wt with
   | true=>exact .inl ⟨hwt,fun w hz=>hz rfl a ha⟩
   | false=>rw[if_neg (by simp)] at hv;exact .inr ⟨hwt,hv⟩
  ·intro k hk hmm;refine⟨fun hk'=>hRs k hk' w hw,fun _ ht a ha=>?_⟩;rw[ht,if_pos rfl] at hv;exact hv a w ha (fun _=>hw)
theorem R.takeP {o:Oper} {v:Value} {wt:Bool} (ho:Aw ops.toList i=F o) (hg:Cv ops.toList l o.guard=F wt) (hq:quiet P o.op=true) (hv:if wt=true then ∀ a w,Kn n ds l a->(execOp a.eval o).run P w=.ok (.value v) w else v=undef)
  (h:Rj P n ds d ops K pl pend S (addl l o.dst v)):Rj P n ds d ops K (i::pl) pend S l:=
 R.take false ho hg hq (by cases wt with | true=>rw[if_pos rfl] at hv |-;exact fun a w ha _=>hv a w ha | false=>rw[if_neg (by simp)] at hv |-;exact hv) h
theorem R.takeS {o:Oper} {v:Value} (ho:Aw ops.toList i=F o) (hg:Cv ops.toList l o.guard=F true) (hq:quiet P o.op=true) (hv:∀ a w,Kn n ds l a->S w->(execOp a.eval o).run P w=.ok (.value v) w)
  (h:Rj P n ds d ops K pl (i::pend) S (addl l o.dst v)):Rj P n ds d ops K (i::pl) pend S l:=
 R.take true ho hg hq (by rw[if_pos rfl];exact fun a w ha hw=>hv a w ha (hw rfl)) h
def Sq {ι:Type} (d:Bool) (ops:Array Oper) (i:Nat) (pend pend':List Nat) (Si:ι->Y->Prop) (S:Y->Prop):Prop:=
 (d=false/\pend'=[])\/(pend'=[]/\pend.all (Cp ops i)=true)\/(pend'=pend/\∀ x w,Si x w->S w)
theorem R.eff {ι:Type} {o:Oper} {Si:ι->Y->Prop} {li:ι->Env} {pend':List Nat} (ho:Aw ops.toList i=F o) (hg:Cv ops.toList l o.guard=F true) (hq:quiet P o.op=false)
  (he:∀ a w (K':Act->Y->Prop),Kn n ds l a->(∀ v,Kn n ds (addl l o.dst v) (a.put o.dst v))->S w->(∀ x v w',Si x w'->Kn n ds (li x) (a.put o.dst v)->K' (a.put o.dst v) w')->Eo P o a w K')
  (hp:Sq d ops i pend pend' Si S) (h:∀ x,Rj P n ds d ops K pl pend' (Si x) (li x)):Rj P n ds d ops K (i::pl) pend S l:=by
 intro hok;obtain⟨hok',o',ho',hd⟩:=Pj hok;rw[DB,Array.getElem?_toList] at ho;rw[ho] at ho';cases ho'
 have h:=fun x=>h x hok';cases d with
 | false=>
  dsimp only at h |-;intro a w ha hw;unfold Ou K5;rw[ho];dsimp only
  rw[BY ha hg,if_pos rfl];exact he a w _ ha (ha.addl hd) hw (fun x v w' hs hk=>h x _ w' hk hs)
 | true=>
  dsimp only at h |-;intro Rs hRs a w ha hw;unfold M7 at hok;rw[Bool.and_eq_true] at hok;obtain⟨hcn,_,hre,_⟩:=Tt hok.1 ho;have hr:=hre hq;have hlt:i<ops.size:=(Gl ho)
  have hget:((lst ops (i::pl)).setIfInBounds i true).getD i false=true:=by
   rw[Array.getD_eq_getD_getElem?,Array.getElem?_setIfInBounds_self_of_lt (by rw[CZ];exact hlt)];rfl
  refine⟨(fun h0=>by rw[hr] at h0;cases h0),?_⟩;rw[hr];intro j hj;obtain rfl:j=i:=by simpa using hj
  unfold K5;rw[ho];dsimp only
  rw[BY ha hg,if_pos rfl];refine he a w _ ha (ha.addl hd) hw (fun x v w' hs hk=>?_);rcases hp with ⟨hp,_⟩ | ⟨rfl,hp⟩ | ⟨rfl,hp⟩
  ·cases hp
  rotate_left
  ·have:=h x Rs (fun j hj w hw=>hRs j hj w (hp x w hw)) _ w' hk hs;rw[<- Ef hcn] at this;exact⟨fun k hk _=>hRs k hk w' (hp x w' hs),this⟩
  ·have:=h x Rs (fun j hj=>by cases hj) _ w' hk hs;rw[<- Ef hcn] at this;have hall:∀ L w,L.getD j false=true->Tm P ops Rs pend L w:=fun L w hL k hk hmm=>by
    have h1:=hmm j o ho hq hL;have h2:=List.all_eq_true.1 hp k hk;rw[h1] at h2;cases h2
   exact⟨hall _ _ hget,Er (fun L=>L.getD j false=true) (fun L i h=>getD_set_true h) (fun L w hL _=>hall L w hL) _ _ _ _ hget this⟩
theorem R.ux {o:Oper} (ho:Aw ops.toList i=F o) (hg:Cv ops.toList l o.guard=F false) (hq:quiet P o.op=false) (h:Rj P n ds d ops K pl pend S (addl l o.dst undef)):Rj P n ds d ops K (i::pl) pend S l:=by
 intro hok;obtain⟨hok',o',ho',hd⟩:=Pj hok;rw[DB,Array.getElem?_toList] at ho;rw[ho] at ho';cases ho'
 have h:=h hok';cases d with
 | false=>
  dsimp only at h |-;intro a w ha hw;unfold Ou K5;rw[ho];dsimp only
  rw[BY ha hg,if_neg (by simp)];exact h _ w (ha.addl hd _) hw
 | true=>
  dsimp only at h |-;intro Rs hRs a w ha hw;unfold M7 at hok;rw[Bool.and_eq_true] at hok;obtain⟨hcn,_,hre,_⟩:=Tt hok.1 ho;have hr:=hre hq;refine⟨(fun h0=>by rw[hr] at h0;cases h0),?_⟩;rw[hr];intro j hj;obtain rfl:j=i:=by simpa using hj
  unfold K5;rw[ho];dsimp only
  rw[BY ha hg,if_neg (by simp)];have:=h Rs hRs _ w (ha.addl hd _) hw;rw[<- Ef hcn] at this;exact⟨fun k hk _=>hRs k hk w hw,this⟩
theorem R.done (h:∀ a w,Kn n ds l a->S w->K a w):Rj P n ds d ops K [] pend S l:=by
 intro hok;cases d with
 | false=>exact fun a w ha hw=>h a w ha hw
 | true=>
  intro Rs hRs a w ha hw;refine⟨?_,h a w ha hw⟩;cases hr:Region.ready .any ops (lst ops []) with
  | nil=>rfl
  | cons j _=>
   have hj:j∈Region.ready .any ops (lst ops []):=by rw[hr];exact List.mem_cons_self ..
   obtain⟨h0,o,ho,_⟩:=mem_ready.1 hj;rw[Array.getD_eq_getD_getElem?,IL (Gl ho)] at h0;cases h0
theorem Kn.re {a:Act} {t:Nat} {v v':Value} (h:Kn n ds l a) (hv:lk l t=F v) (e:v=v'):Kn n ds ((t,v')::l) a:=⟨h.size,h.defers,fun s u hs=>by
 rw[KJ] at hs;split at hs
 ·rename_i e';subst e';cases hs;rw[<- e];exact h.get _ _ hv
 ·exact h.get _ _ hs⟩
theorem R.re (t:Nat) {v v':Value} (e:v=v') (h:Rj P n ds d ops K pl pend S ((t,v')::l)) (hv:lk l t=F v:=by rfl):Rj P n ds d ops K pl pend S l:=by
 intro hok;have h:=h hok;cases d with
 | false=>exact fun a w ha hw=>h a w (ha.re hv e) hw
 | true=>exact fun Rs hRs a w ha hw=>h Rs hRs a w (ha.re hv e) hw
theorem V.re {k:List Je} (t:Nat) {v v':Value} (e:v=v') (h:V P Fz Qr n ds k S ((t,v')::l)) (hv:lk l t=F v:=by rfl):V P Fz Qr n ds k S l:=fun a w ha hw=>h a w (ha.re hv e) hw
theorem R.yes (t:Nat) {p:Prop} {hd:Decidable p} (e:p) (h:Rj P n ds d ops K pl pend S ((t,.bool true)::l)) (hv:lk l t=F (.bool (@decide p hd)):=by rfl):Rj P n ds d ops K pl pend S l:=R.re t (by rw[decide_eq_true e]) h hv
theorem R.no (t:Nat) {p:Prop} {hd:Decidable p} (e:¬p) (h:Rj P n ds d ops K pl pend S ((t,.bool false)::l)) (hv:lk l t=F (.bool (@decide p hd)):=by rfl):Rj P n ds d ops K pl pend S l:=R.re t (by rw[decide_eq_false e]) h hv
theorem R.is (t:Nat) {b c:Bool} (e:b=c) (h:Rj P n ds d ops K pl pend S ((t,.bool c)::l)) (hv:lk l t=F (.bool b):=by rfl):Rj P n ds d ops K pl pend S l:=R.re t (by rw[e]) h hv
theorem R.z {k:List Je}:(V P Fz Qr n ds k S l)->Rj P n ds d ops (td P Fz Qr O k) [] pend S l:=fun h=>
 R.done h
class Dr (S:Y->Prop):Prop where
 drew:∀ w,S w->S w.drew
def okS (d:Bool) (ops:Array Oper) (pl:List Nat):Bool:=match d with
 | false=>pl==List.range ops.size
 | true=>pl.length==ops.size&&(List.range ops.size).all pl.contains
theorem U9 (h:okS true ops pl=true):lst ops pl=Array.replicate ops.size false/\pl.length=ops.size:=by
 unfold okS at h;simp only[Bool.and_eq_true,beq_iff_eq,List.all_eq_true,List.mem_range] at h;refine⟨Array.ext_getElem? fun j=>?_,h.1⟩;by_cases hj:j<ops.size
 ·rw[IL hj,h.2 j hj,Array.getElem?_replicate,if_pos hj];rfl
 ·rw[Array.getElem?_eq_none (by rw[CZ];omega),Array.getElem?_eq_none (by rw[Array.size_replicate];omega)]
theorem V.regp [Dr S] {k k':List Je} {id:Nat} (pl:List Nat) (hF:LZ Fz) (hm:P.follows .mixedOrders=true) (h:G8 400 O k=.reg id ops d k') (hok:(M7 P d ops n pl&&okS d ops pl&&E1 ops)=true)
  (hr:Rj P n ds d ops (td P Fz Qr O k') pl [] S l):V P Fz Qr n ds k S l:=V.at h fun a w ha hw=>by
 rw[Bool.and_eq_true,Bool.and_eq_true] at hok;obtain⟨⟨h1,h2⟩,h3⟩:=hok;have hr:=hr h1;show(Code.region id ops d).wpIn Fz 0 P _ a w;cases d with
 | false=>
  dsimp only at hr;obtain rfl:pl=List.range ops.size:=by simpa[okS] using h2
  exact wpIn_region (UW hF h3 (fun a w h=>h) _ _ _ (hr a w ha hw))
 | true=>
  dsimp only at hr;obtain⟨hl,hn⟩:=U9 h2;have:=hr (fun _ _=>True) (fun _ hj=>by cases hj) a w.drew ha (Dr.drew w hw);rw[hl,hn] at this;exact wpIn_region_any hm (J8 hF h3 (fun a w h=>h) _ _ _ _ this)
end
def nums:List Nat:=[0,1,2,3,4,5,6,7,8,9,10,11,12,13,14,15,16,17,18,19,20,21,22,23,24,25,26,27,28,29,30,31,32,33,34,35,36,37,38,39,40,41,42,43,44,45,46,47,48,49]++[50,51,52,53,54,55,56,57,58,59,60,61,62,63,64,65,66,67,68,69,70,71,72,73,74,75,76,77,78,79,80,81,82,83,84,85,86,87,88,89,90,91,92,93,94,95,96,97,98,99]
def upto:List Oper->List Nat->List Nat
 | _::os,i::is=>i::upto os is
 | _,_=>[]
def seen:List Oper->List Nat->List (Nat×Bool×List Nat)->List (Nat×Bool×List Nat)
 | o::os,i::is,acc=>seen os is ((i,KR o.op,(o.after.toList.filter (Region.binds .any)).map (·.on))::acc)
 | _,_,acc=>acc
def mem (i:Nat):List Nat->Bool
 | []=>false
 | j::l=>bif Nat.beq i j then true else mem i l
def Afg (L:List Nat):List Nat->Bool
 | []=>true
 | i::is=>bif mem i L then Afg L is else false
def pick (q:Bool) (L:List Nat):List (Nat×Bool×List Nat)->Option Nat
 | []=>O
 | (i,b,ws)::r=>bif mem i L then pick q L r else bif (b||q) then (bif Afg L ws then F i else pick q L r) else pick q L r
def TF (ops:List (Nat×Bool×List Nat)):Nat->List Nat->Option (List Nat)
 | 0,L=>F L.reverse
 | n+1,L=>match pick false L ops with
  | some i=>TF ops n (i::L)
  | none=>match pick true L ops with
   | some i=>TF ops n (i::L)
   | none=>O
def pln (d:Bool) (ops:Array Oper):Option (List Nat):=match d with
 | false=>F (upto ops.toList nums)
 | true=>TF (seen ops.toList nums []).reverse ops.size []
theorem V.reg {P:Program} {Fz:Fence} {Qr:Exit->Act->Y->Prop} {n:Nat} {ds:List Deferred} {d:Bool} {ops:Array Oper} {pl:List Nat} {S:Y->Prop} {l:Env} [Dr S] {k k':List Je} {id:Nat} (hF:LZ Fz) (h:G8 400 O k=.reg id ops d k':=by rfl) (hp:pln d ops=F pl:=by rfl) (hm:P.follows .mixedOrders=true:=by kernel_rfl) (hok:(M7 P d ops n pl&&okS d ops pl&&E1 ops)=true:=by kernel_rfl):(Rj P n ds d ops (td P Fz Qr O k') pl [] S l)->V P Fz Qr n ds k S l:=fun hr=>
 V.regp pl hF hm h hok hr
end
section
structure Aj where
 is:(Nat->Prop)->Y->Prop
 loc:∀ Fz w w',(∀ b,Fz b->w'.heap[b]? =w.heap[b]?)->is Fz w->is Fz w'
def blk (b:Nat) (cs:List Value) (ty:TypeId):Aj:=⟨fun Fz w=>Fz b/\w.heap[b]? =F (.cells cs.toArray ty),fun Fz w w' h x=>⟨x.1,(h b x.1).trans x.2⟩⟩
def Bm:List Aj->Y->(Nat->Prop)->Prop
 | [],_,_=>True
 | A::r,w,G=>∃ Fz:Nat->Prop,A.is Fz w/\(∀ b,Fz b->G b)/\Bm r w (fun b=>G b/\¬Fz b)
theorem Bm.mono:∀ {A:List Aj} {w w':Y} {G G':Nat->Prop},Bm A w G->(∀ b,G b->G' b)->(∀ b,G b->w'.heap[b]? =w.heap[b]?)->Bm A w' G'
 | [],_,_,_,_,_,_,_=>trivial
 | X::r,w,w',G,G',⟨Fz,h1,h2,h3⟩,hg,hw=>⟨Fz,X.loc Fz w w' (fun b hb=>hw b (h2 b hb)) h1,fun b hb=>hg b (h2 b hb),Bm.mono h3 (fun b hb=>⟨hg b hb.1,hb.2⟩) (fun b hb=>hw b hb.1)⟩
inductive Dt (X X':Aj):List Aj->List Aj->Prop
 | hd {r:List Aj}:Dt X X' (X::r) (X'::r)
 | tl {Yz:Aj} {r r':List Aj} (h:Dt X X' r r'):Dt X X' (Yz::r) (Yz::r')
theorem Dt.go {X X':Aj} {A A':List Aj} (h:Dt X X' A A'):∀ {w:Y} {G:Nat->Prop},Bm A w G->∃ Fz:Nat->Prop,X.is Fz w/\(∀ b,Fz b->G b)∧
  ∀ (F':Nat->Prop) (w':Y) (G':Nat->Prop),X'.is F' w'->(∀ b,G b->¬Fz b->w'.heap[b]? =w.heap[b]?)->(∀ b,G b->G' b)->(∀ b,F' b->G' b/\(Fz b\/¬G b))->Bm A' w' G':=by
 induction h with
 | hd=>
  rintro w G ⟨Fz,h1,h2,h3⟩;refine⟨Fz,h1,h2,fun F' w' G' k1 k2 k3 k4=>⟨F',k1,fun b hb=>(k4 b hb).1,h3.mono (fun b hb=>⟨k3 b hb.1,fun hf=>?_⟩) (fun b hb=>k2 b hb.1 hb.2)⟩⟩;rcases(k4 b hf).2 with h | h
  ·exact hb.2 h
  ·exact h hb.1
 | @tl Yz r r' h ih=>
  rintro w G ⟨Fz,h1,h2,h3⟩;obtain⟨F1,i1,i2,i3⟩:=ih h3;refine⟨F1,i1,fun b hb=>(i2 b hb).1,fun F' w' G' k1 k2 k3 k4=>⟨Fz,Yz.loc Fz w w' (fun b hb=>k2 b (h2 b hb) (fun hf=>(i2 b hf).2 hb)) h1,fun b hb=>k3 b (h2 b hb),i3 F' w' _ k1 (fun b hb hf=>k2 b hb.1 hf) (fun b hb=>⟨k3 b hb.1,hb.2⟩) (fun b hb=>?_)⟩⟩;obtain⟨k5,k6⟩:=k4 b hb;rcases k6 with k6 | k6
  ·exact⟨⟨k5,(i2 b k6).2⟩,.inl k6⟩
  ·exact⟨⟨k5,fun hf=>k6 (h2 b hf)⟩,.inr fun hg=>k6 hg.1⟩
structure AI (C:Nat->Prop) (w0 w:Y):Prop where
 os:w.os=w0.os
 tape:w.tape=w0.tape
 output:w.output=w0.output
 size:w0.heap.size<=w.heap.size
 block:∀ k,k<w0.heap.size->¬C k->w.heap[k]? =w0.heap[k]?
def Ao (_:Nat):Prop:=False
theorem AI.refl (C:Nat->Prop) (w:Y):AI C w w:=⟨rfl,rfl,rfl,Nat.le_refl _,fun _ _ _=>rfl⟩
theorem AI.trans {C C':Nat->Prop} {a b c:Y} (h:AI C a b) (k:AI C' b c) (hc:∀ x,x<a.heap.size->C' x->C x):AI C a c:=
 ⟨k.os.trans h.os,k.tape.trans h.tape,k.output.trans h.output,Nat.le_trans h.size k.size,fun x hx hn=>(k.block x (Nat.lt_of_lt_of_le hx h.size) (fun e=>hn (hc x hx e))).trans (h.block x hx hn)⟩
theorem AI.sub {C C':Nat->Prop} {a b:Y} (h:AI C a b) (hc:∀ x,x<a.heap.size->C x->C' x):AI C' a b:=⟨h.os,h.tape,h.output,h.size,fun k hk hn=>h.block k hk (fun e=>hn (hc k hk e))⟩
theorem AI.of_below {C:Nat->Prop} {w w':Y} (h:Below w.heap.size w w'):AI C w w':=⟨h.os,h.tape,h.output,h.size,fun k hk _=>h.block k hk⟩
theorem AI.below {w w':Y} (h:AI Ao w w'):Below w.heap.size w w':=⟨h.os,h.tape,h.output,h.size,fun k hk=>h.block k hk (fun e=>e)⟩
def Mem (C:Nat->Prop) (w0:Y) (A:List Aj) (w:Y):Prop:=AI C w0 w/\Bm A w (fun b=>b<w.heap.size/\(w0.heap.size<=b\/C b))
section
variable {C:Nat->Prop} {w0 w w':Y} {A A':List Aj} {X X':Aj}
theorem Mem.start (w:Y):Mem C w [] w:=⟨AI.refl _ _,trivial⟩
instance:Dr (Mem C w0 A):=⟨fun w h=>⟨⟨h.1.os,h.1.tape,h.1.output,h.1.size,h.1.block⟩,h.2.mono (fun b hb=>hb) (fun b hb=>rfl)⟩⟩
theorem Mem.below (h:Mem C w0 A w) (hb:Below w.heap.size w w'):Mem C w0 A w':=
 ⟨h.1.trans (C':=C) (AI.of_below hb) (fun _ _ e=>e),h.2.mono (fun b hg=>⟨Nat.lt_of_lt_of_le hg.1 hb.size,hg.2⟩) (fun b hg=>hb.block b hg.1)⟩
theorem Mem.push {Fz:Nat->Prop} (h:Mem C w0 A w) (hb:Below w.heap.size w w') (hx:X.is Fz w') (hF:∀ b,Fz b->w.heap.size<=b/\b<w'.heap.size):Mem C w0 (X::A) w':=
 ⟨(h.below hb).1,Fz,hx,fun b hf=>⟨(hF b hf).2,.inl (Nat.le_trans h.1.size (hF b hf).1)⟩,h.2.mono (fun b hg=>⟨⟨Nat.lt_of_lt_of_le hg.1 hb.size,hg.2⟩,fun hf=>by have:=(hF b hf).1;omega⟩) (fun b hg=>hb.block b hg.1)⟩
theorem Mem.alloc (h:Mem C w0 A w) (cs:List Value) (ty:TypeId):Mem C w0 (blk w.heap.size cs ty::A) (w.alloc (.cells cs.toArray ty)):=
 h.push (Fz:=fun b=>b=w.heap.size) ((Bq _ w).alloc Nr _) ⟨rfl,Wn w _⟩ (fun b hb=>by subst hb;exact⟨Nat.le_refl _,by simp⟩)
theorem Mem.rep (h:Mem C w0 A w) (hr:Dt X X' A A'):∃ Fz:Nat->Prop,X.is Fz w/\(∀ b,Fz b->b<w.heap.size/\(w0.heap.size<=b\/C b))∧
  ∀ (F':Nat->Prop) (w':Y),X'.is F' w'->AI Fz w w'->(∀ b,F' b->b<w'.heap.size/\(Fz b\/w.heap.size<=b))->Mem C w0 A' w':=by
 obtain⟨Fz,h1,h2,h3⟩:=hr.go h.2;refine⟨Fz,h1,h2,fun F' w' k1 k2 k3=>⟨h.1.trans k2 (fun x hx hf=>?_),h3 F' w' _ k1 (fun b hb hf=>k2.block b hb.1 hf) (fun b hb=>⟨Nat.lt_of_lt_of_le hb.1 k2.size,hb.2⟩) (fun b hb=>?_)⟩⟩
 ·rcases(h2 x hf).2 with h | h
  ·omega
  ·exact h
 ·obtain⟨k4,k5⟩:=k3 b hb;rcases k5 with k5 | k5
  ·exact⟨⟨k4,(h2 b k5).2⟩,.inl k5⟩
  ·exact⟨⟨k4,.inl (Nat.le_trans h.1.size k5)⟩,.inr fun hg=>by have:=hg.1;omega⟩
theorem Dt.same (h:X∈A):Dt X X A A:=by
 induction A with
 | nil=>cases h
 | cons Yz r ih=>
  rcases List.mem_cons.1 h with rfl | h
  ·exact .hd
  ·exact .tl (ih h)
theorem Mem.has (h:Mem C w0 A w) (hx:X∈A):∃ Fz:Nat->Prop,X.is Fz w/\∀ b,Fz b->b<w.heap.size/\(w0.heap.size<=b\/C b):=
 let ⟨Fz,h1,h2,_⟩:=h.rep (Dt.same hx);⟨Fz,h1,h2⟩
theorem Mem.blk {b:Nat} {cs:List Value} {ty:TypeId} (h:Mem C w0 A w) (hx:blk b cs ty∈A):w.heap[b]? =F (.cells cs.toArray ty):=let ⟨_,h1,_⟩:=h.has hx;h1.2
theorem Bm.sub:∀ {A A':List Aj},A'.Sublist A->∀ {G:Nat->Prop},Bm A w G->Bm A' w G:=by
 intro A A' h;induction h with
 | slnil=>exact fun h=>h
 | cons Yz _ ih=>rintro G ⟨Fz,_,_,h3⟩;exact ih (h3.mono (fun b hb=>hb.1) (fun _ _=>rfl))
 | cons_cons Yz _ ih=>rintro G ⟨Fz,h1,h2,h3⟩;exact⟨Fz,h1,h2,ih h3⟩
theorem Mem.sub (h:Mem C w0 A w) (hs:A'.Sublist A):Mem C w0 A' w:=⟨h.1,h.2.sub hs⟩
inductive Pk (X:Aj):List Aj->List Aj->Prop
 | hd {r:List Aj}:Pk X (X::r) r
 | tl {Yz:Aj} {r r':List Aj} (h:Pk X r r'):Pk X (Yz::r) (Yz::r')
theorem Bm.pk (h:Pk X A A'):∀ {G:Nat->Prop},Bm A w G->Bm (X::A') w G:=by
 induction h with
 | hd=>exact fun h=>h
 | tl h ih=>
  rintro G ⟨Fz,h1,h2,h3⟩;obtain⟨F',k1,k2,k3⟩:=ih h3;exact⟨F',k1,fun b hb=>(k2 b hb).1,Fz,h1,fun b hb=>⟨h2 b hb,fun e=>(k2 b e).2 hb⟩,k3.mono (fun b hb=>⟨⟨hb.1.1,hb.2⟩,hb.1.2⟩) (fun _ _=>rfl)⟩
theorem Mem.pk (h:Mem C w0 A w) (hp:Pk X A A'):Mem C w0 (X::A') w:=⟨h.1,h.2.pk hp⟩
inductive NT:List Aj->List Aj->Prop
 | nil {A:List Aj}:NT [] A
 | cons {X:Aj} {B A R:List Aj} (h:Pk X A R) (hs:NT B R):NT (X::B) A
theorem Bm.sel {B:List Aj} (h:NT B A):∀ {G:Nat->Prop},Bm A w G->Bm B w G:=by
 induction h with
 | nil=>exact fun _=>trivial
 | cons h _ ih=>
  intro G hs;obtain⟨Fz,h1,h2,h3⟩:=hs.pk h;exact⟨Fz,h1,h2,ih h3⟩
theorem Mem.sel {B:List Aj} (h:Mem C w0 A w) (hs:NT B A:=by repeat (first | exact NT.nil | (apply NT.cons;(repeat (first | exact Pk.hd | apply Pk.tl))))):Mem C w0 B w:=⟨h.1,h.2.sel hs⟩
def Cs (w:Y) (b o:Nat) (vs:List Value):Prop:=∀ j v,vs[j]? =F v->w.cell? ⟨b,o+j,O⟩=F v
theorem AI.cell (h:AI C w0 w) {b o:Nat} {v:Value} (hc:w0.cell? ⟨b,o,O⟩=F v) (hn:¬C b):w.cell? ⟨b,o,O⟩=F v:=by
 have hb:b<w0.heap.size:=by
  unfold World.cell? at hc;cases hk:w0.heap[b]? with
  | none=>simp[hk] at hc
  | some o=>exact(Gl hk)
 exact(World.cell?_of_block (w:=w0) (a:=⟨b,o,O⟩) (h.block b hb hn)).trans hc
theorem AI.cs (h:AI C w0 w) {b o:Nat} {vs:List Value} (hc:Cs w0 b o vs) (hn:¬C b):Cs w b o vs:=fun j v hj=>h.cell (hc j v hj) hn
theorem Cs.of_blk {b:Nat} {cs:List Value} {ty:TypeId} (h:w.heap[b]? =F (.cells cs.toArray ty)):Cs w b 0 cs:=fun j v hj=>by
 simp[World.cell?,h,hj]
theorem Cs.drop {b o:Nat} {cs:List Value} (h:Cs w b o cs) (m:Nat):Cs w b (o+m) (cs.drop m):=fun j v hj=>by
 rw[List.getElem?_drop] at hj;rw[Nat.add_assoc];exact h _ _ hj
theorem Cs.take {b o:Nat} {cs:List Value} (h:Cs w b o cs) (m:Nat):Cs w b o (cs.take m):=fun j v hj=>by
 rw[List.getElem?_take] at hj;split at hj
 ·exact h _ _ hj
 ·cases hj
end
section
variable {P:Program} {t:TypeId} {b o:Nat} {w:Y}
theorem U7 {v:Value} (ht:(isAgg t).run P w=.ok false w) (hc:w.cell? ⟨b,o,O⟩=F v):(Instr.loadAt t (.pointer (F ⟨b,o,O⟩))).run P w=.ok v w:=by
 simp[Instr.loadAt,Instr.sureAddr,loadVar,Sem.run_bind,ht,load,Sem.run,hc,pure]
theorem Ju:∀ (vs:List Value) (i:Nat) (acc:Array Value),Cs w b (o+i) vs->(loadCellsFrom ⟨b,o,O⟩ i vs.length acc).run P w=.ok (acc++vs.toArray) w
 | [],i,acc,_=>by simp[loadCellsFrom,Sem.run,pure]
 | v::vs,i,acc,h=>by
  have h0:w.cell? ((⟨b,o,O⟩:Addr).add i)=F v:=by
   have:=h 0 v rfl;unfold Addr.add;split
   ·rename_i e;subst e;exact this
   ·exact this
  have h1:=Ju vs (i+1) (acc.push v) (by have:=h.drop 1;rw[List.drop_succ_cons,List.drop_zero,Nat.add_assoc] at this;exact this);rw[List.length_cons];unfold loadCellsFrom;simp only[load,Sem.run_bind]
  simp only[Sem.run,h0,Result.andThen_ok]
  rw[h1];congr 1;apply Array.ext';simp
theorem UT {vs:List Value} (ht:(isAgg t).run P w=.ok true w) (hs:(sizeOf t).run P w=.ok vs.length w) (hc:Cs w b o vs):(Instr.loadAt t (.pointer (F ⟨b,o,O⟩))).run P w=.ok (.agg vs.toArray) w:=by
 have:=Ju (P:=P) vs 0 #[] hc;simp[Instr.loadAt,Instr.sureAddr,loadVar,Sem.run_bind,ht,hs,loadCells,this,Sem.run,pure]
end
end
section
section
variable {P:Program} {Fz:Fence} {Qr:Exit->Act->Y->Prop} {n:Nat} {ds:List Deferred} {d:Bool} {ops:Array Oper} {K:Act->Y->Prop} {i:Nat} {pl pend:List Nat} {S S':Y->Prop} {l l':Env}
 {t:Nat} {ty:TypeId} {ps:String} {af:Array Edge} {gd:Option (Nat×Bool)} {C:Nat->Prop} {w0:Y} {A A':List Aj}
theorem R.p {op:Op} {v:Value} {vs:List Value} (ho:Aw ops.toList i=F ⟨F t,op,ty,ps,af,gd⟩:=by rfl) (hg:Cv ops.toList l gd=F true:=by rfl) (hs:evs l op.operands.toList=F vs:=by rfl) (h0:KR op=true:=by rfl) (hq:quiet P op=true:=by first | rfl | kernel_rfl) (hv:∀ ρ w,EV ρ op.operands.toList vs->(execOp ρ ⟨F t,op,ty,ps,af,gd⟩).run P w=.ok (.value v) w:=by intro ρ w h;simp only[Op.operands,Call.operands,EV,Array.toList_append,List.toList_toArray,List.map_cons,List.map_nil,List.nil_append,List.cons_append] at h;simp[go_sem,h];(try rfl);first | done | fail):(Rj P n ds d ops K pl pend S ((t,v)::l))->Rj P n ds d ops K (i::pl) pend S l:=fun h=>
 R.takeP ho hg hq (by rw[if_pos rfl];exact fun a w ha=>hv a.eval w (ha.evs _ _ hs).1) h
theorem R.u {op:Op} (ho:Aw ops.toList i=F ⟨F t,op,ty,ps,af,gd⟩:=by rfl) (hg:Cv ops.toList l gd=F false:=by rfl) (h0:KR op=true:=by rfl) (hq:quiet P op=true:=by first | rfl | kernel_rfl):(Rj P n ds d ops K pl pend S ((t,undef)::l))->Rj P n ds d ops K (i::pl) pend S l:=fun h=>
 R.takeP ho hg hq (by rw[if_neg (by simp)]) h
theorem R.uc {op:Op} (ho:Aw ops.toList i=F ⟨F t,op,ty,ps,af,gd⟩:=by rfl) (hg:Cv ops.toList l gd=F false:=by rfl) (hq:quiet P op=false:=by rfl):(Rj P n ds d ops K pl pend S ((t,undef)::l))->Rj P n ds d ops K (i::pl) pend S l:=fun h=>
 R.ux ho hg hq h
theorem R.add {x y:Operand} {tt t2:TypeId} {a b:Int} (ho:Aw ops.toList i=F ⟨F t,.binOp .add tt x y t2,ty,ps,af,gd⟩:=by rfl) (hx:ev l x=F (I J a):=by rfl) (hy:ev l y=F (I J b):=by rfl) (hr: -9223372036854775808<=a+b/\a+b<=9223372036854775807:=by omega) (hg:Cv ops.toList l gd=F true:=by rfl):(Rj P n ds d ops K pl pend S ((t,I J (a+b))::l))->Rj P n ds d ops K (i::pl) pend S l:=fun h=>
 R.takeP ho hg rfl (by rw[if_pos rfl];intro a w ha;simp[execOp,ha.ev hx,ha.ev hy,eqGuard,binOp,Op.intArith,Sem.run_bind,Sem.run,pure,IntWalk.i64_in _ hr]) h
theorem R.sub {x y:Operand} {tt t2:TypeId} {a b:Int} (ho:Aw ops.toList i=F ⟨F t,.binOp .sub tt x y t2,ty,ps,af,gd⟩:=by rfl) (hx:ev l x=F (I J a):=by rfl) (hy:ev l y=F (I J b):=by rfl) (hr: -9223372036854775808<=a - b/\a - b<=9223372036854775807:=by omega) (hg:Cv ops.toList l gd=F true:=by rfl):(Rj P n ds d ops K pl pend S ((t,I J (a - b))::l))->Rj P n ds d ops K (i::pl) pend S l:=fun h=>
 R.takeP ho hg rfl (by rw[if_pos rfl];intro a w ha;simp[execOp,ha.ev hx,ha.ev hy,eqGuard,binOp,Op.intArith,Sem.run_bind,Sem.run,pure,IntWalk.i64_in _ hr]) h
theorem R.ix {x y:Operand} {tt e:TypeId} {b o len c sz k:Nat} (hk:k<len) (h:Rj P n ds d ops K pl pend S ((t,.pointer (F ⟨b,o+k*sz,O⟩))::l)) (ho:Aw ops.toList i=F ⟨F t,.indexAddr tt x y,ty,ps,af,gd⟩:=by rfl)
  (hx:ev l x=F (Z (F ⟨b,o,O⟩) len c):=by rfl) (hy:ev l y=F (I J k):=by rfl) (hu:∀ w,(underlying tt).run P w=.ok (.slice e) w:=by intro w;simp;(try rfl);first | done | fail) (hs:∀ w,(sizeOf e).run P w=.ok sz w:=by intro w;simp;(try rfl);first | done | fail) (hg:Cv ops.toList l gd=F true:=by rfl):Rj P n ds d ops K (i::pl) pend S l:=
 R.takeP ho hg rfl (by
  rw[if_pos rfl];intro a w ha;have h2:(0:Int)<=(k:Int)/\(k:Int)<(len:Int):=⟨by omega,by omega⟩
  have h3:(⟨b,o,O⟩:Addr).add (k*sz)=⟨b,o+k*sz,O⟩:=by unfold Addr.add;split<;>simp_all
  simp[execOp,ha.ev hx,ha.ev hy,Instr.indexAt,asIntOf,Sem.run_bind,Sem.run,pure,hu,h2,hs,h3]) h
end
section
variable {P:Program} {Fz:Fence} {Qr:Exit->Act->Y->Prop} {n:Nat} {ds:List Deferred} {d:Bool} {ops:Array Oper} {K:Act->Y->Prop} {i:Nat} {pl pend pend':List Nat} {l l':Env}
 {t:Nat} {ty:TypeId} {ps:String} {af:Array Edge} {gd:Option (Nat×Bool)} {C:Nat->Prop} {w0:Y} {A A':List Aj}
theorem run_load {x:Operand} {tt:TypeId} {b o:Nat} {v:Value} {w:Y} {a:Act} (hx:ev l x=F (.pointer (F ⟨b,o,O⟩))) (ha:Kn n ds l a) (hr:(Instr.loadAt tt (.pointer (F ⟨b,o,O⟩))).run P w=.ok v w):(execOp a.eval ⟨F t,.load tt x,ty,ps,af,gd⟩).run P w=.ok (.value v) w:=by
 simp[execOp,ha.ev hx,Sem.run_bind,hr,Sem.run,pure]
def tkE {α:Type}:Nat->List α->Option (List α)
 | 0,_=>F []
 | m+1,x::r=>match tkE m r with
  | some u=>F (x::u)
  | none=>O
 | _+1,[]=>O
theorem Z3 {α:Type}:∀ {m:Nat} {l u:List α},tkE m l=F u->l.take m=u/\u.length=m
 | 0,l,u,h=>by cases h;exact⟨List.take_zero ..,rfl⟩
 | m+1,[],u,h=>by cases h
 | m+1,x::r,u,h=>by
  unfold tkE at h;split at h
  ·rename_i v hv;cases h;obtain⟨h1,h2⟩:=Z3 hv;exact⟨by rw[List.take_succ_cons,h1],by simp[h2]⟩
  ·cases h
def Zz (g:Bool) (m:Nat) (l:List Value):Option Value:=match g with
 | false=>match l with
  | x::_=>F x
  | []=>O
 | true=>match tkE m l with
  | some u=>F (.agg u.toArray)
  | none=>O
theorem Fu {tt:TypeId} {b o m:Nat} {g:Bool} {v:Value} {cs:List Value} {w:Y} (hc:Cs w b o cs) (hv:Zz g m cs=F v) (ht:(isAgg tt).run P w=.ok g w) (hs:(sizeOf tt).run P w=.ok m w):(Instr.loadAt tt (.pointer (F ⟨b,o,O⟩))).run P w=.ok v w:=by
 unfold Zz at hv;cases g with
 | false=>
  cases cs with
  | nil=>cases hv
  | cons x r=>cases hv;exact U7 ht (hc 0 _ rfl)
 | true=>
  dsimp only at hv;split at hv
  ·rename_i u hu;cases hv
   obtain⟨h1,h2⟩:=Z3 hu;have:=hc.take m;rw[h1] at this;exact UT ht (by rw[h2];exact hs) this
  ·cases hv
theorem R.lb {x:Operand} {tt bt:TypeId} {b o m:Nat} {g:Bool} {v:Value} {cs:List Value} (ho:Aw ops.toList i=F ⟨F t,.load tt x,ty,ps,af,gd⟩:=by rfl)
  (hx:ev l x=F (.pointer (F ⟨b,o,O⟩)):=by rfl) (hb:blk b cs bt∈A:=by(repeat (first | exact List.Mem.head _ | apply List.Mem.tail));first | done | fail) (ht:∀ w,(isAgg tt).run P w=.ok g w:=by intro w;simp;(try rfl);first | done | fail) (hs:∀ w,(sizeOf tt).run P w=.ok m w:=by intro w;simp;(try rfl);first | done | fail) (hv:Zz g m (cs.drop o)=F v:=by rfl) (hg:Cv ops.toList l gd=F true:=by rfl):
  Rj P n ds d ops K pl (i::pend) (Mem C w0 A) ((t,v)::l)->Rj P n ds d ops K (i::pl) pend (Mem C w0 A) l:=fun h=>
 R.takeS ho hg rfl (fun a w ha hw=>run_load hx ha (by
  have:=(Cs.of_blk (hw.blk hb)).drop o;rw[Nat.zero_add] at this;exact Fu this hv (ht w) (hs w))) h
theorem R.lo {x:Operand} {tt:TypeId} {b o p m:Nat} {g:Bool} {v:Value} {vs:List Value} (j:Nat) (hc:Cs w0 b o vs) (h:Rj P n ds d ops K pl (i::pend) (Mem C w0 A) ((t,v)::l)) (hn:¬C b:=by exact fun h=>h) (ho:Aw ops.toList i=F ⟨F t,.load tt x,ty,ps,af,gd⟩:=by rfl)
  (hx:ev l x=F (.pointer (F ⟨b,p,O⟩)):=by rfl) (hp:p=o+j:=by rfl) (ht:∀ w,(isAgg tt).run P w=.ok g w:=by intro w;simp;(try rfl);first | done | fail) (hs:∀ w,(sizeOf tt).run P w=.ok m w:=by intro w;simp;(try rfl);first | done | fail) (hv:Zz g m (vs.drop j)=F v:=by rfl) (hg:Cv ops.toList l gd=F true:=by rfl):Rj P n ds d ops K (i::pl) pend (Mem C w0 A) l:=
 R.takeS ho hg rfl (fun a w ha hw=>run_load hx ha (by subst hp;exact Fu ((hw.1.cs hc hn).drop j) hv (ht w) (hs w))) h
theorem Sq.one {S S':Y->Prop} (hs:∀ w,S' w->S w):Sq (ι:=Unit) d ops i pend pend (fun _=>S') S:=.inr (.inr ⟨rfl,fun _ w h=>hs w h⟩)
theorem R.new {op:Op} {vs cs:List Value} {bt:TypeId} (h:∀ b,w0.heap.size<=b->Rj P n ds d ops K pl pend (Mem C w0 (blk b cs bt::A)) ((t,.pointer (F ⟨b,0,O⟩))::l)) (ho:Aw ops.toList i=F ⟨F t,op,ty,ps,af,gd⟩:=by rfl) (hg:Cv ops.toList l gd=F true:=by rfl)
  (hs:evs l op.operands.toList=F vs:=by rfl) (hq:quiet P op=false:=by first | rfl | kernel_rfl)
  (hv:∀ ρ w,EV ρ op.operands.toList vs->(execOp ρ ⟨F t,op,ty,ps,af,gd⟩).run P w=.ok (.value (.pointer (F ⟨w.heap.size,0,O⟩))) (w.alloc (.cells cs.toArray bt)):=by intro ρ w h;simp only[Op.operands,Call.operands,EV,Array.toList_append,List.toList_toArray,List.map_cons,List.map_nil,List.nil_append,List.cons_append] at h;simp[go_sem,h];(try rfl);first | done | fail):Rj P n ds d ops K (i::pl) pend (Mem C w0 A) l:=
 R.eff (ι:={b:Nat // w0.heap.size<=b}) (Si:=fun b=>Mem C w0 (blk b.1 cs bt::A)) (li:=fun b=>(t,.pointer (F ⟨b.1,0,O⟩))::l) ho hg hq
  (fun a w K' ha hd hw hk=>by
   unfold Eo;rw[hv a.eval w (ha.evs _ _ hs).1];exact hk ⟨w.heap.size,hw.1.size⟩ _ _ (hw.alloc cs bt) (hd _)) (.inr (.inr ⟨rfl,fun x w h=>h.sub (List.sublist_cons_self ..)⟩)) (fun x=>h x.1 x.2)
theorem E7 {f:FuncId} {fn:Operand} {fs cs:Array Value} {args:List Operand} {ts:Array TypeId} {vs aq:List Value} {dst:Option Nat} {w:Y} {a:Act} (ha:Kn n ds l a) (hf:ev l fn=F (.func (.func f) fs cs)) (hs:evs l args=F vs) (hc:∀ args w,(callFunc f args).run P w=.ok (.enter f args) w) (he:fs.toList++(vs++cs.toList)=aq):
  (execOp a.eval ⟨dst,.call {callee:=.value fn,args:=args.toArray,argTypes:=ts},ty,ps,af,gd⟩).run P w=.ok (.enter f aq.toArray) w:=by
 have h0:fs++vs.toArray++cs=aq.toArray:=by rw[<- he];apply Array.ext';simp
 have h1:(args.toArray).map a.eval=vs.toArray:=by rw[List.map_toArray,(ha.evs _ _ hs).2]
 simp[execOp,resolve,Deferred.ofValue,invoke,h1,ha.ev hf,Sem.run_bind,Sem.run,pure,hc];simpa using h0
theorem R.cx {ι:Type} {v:ι->Value} {A':ι->List Aj} {f:FuncId} {fn:Operand} {fs cs:Array Value} {args:List Operand} {ts:Array TypeId} {vs aq:List Value}
  (hc:∀ w,Mem C w0 A w->Calls P f aq.toArray w fun e w'=>∃ x,e=.returned (v x)/\Mem C w0 (A' x) w') (h:∀ x,Rj P n ds d ops K pl pend' (Mem C w0 (A' x)) ((t,v x)::l))
  (ho:Aw ops.toList i=F ⟨F t,.call {callee:=.value fn,args:=args.toArray,argTypes:=ts},ty,ps,af,gd⟩:=by rfl) (hf:ev l fn=F (.func (.func f) fs cs):=by rfl) (hs:evs l args=F vs:=by rfl) (he:fs.toList++(vs++cs.toList)=aq:=by rfl) (hr:∀ args w,(callFunc f args).run P w=.ok (.enter f args) w:=by intro args w;simp;first | done | fail)
  (hp:Sq d ops i pend pend' (fun x=>Mem C w0 (A' x)) (Mem C w0 A):=by first | exact .inl ⟨rfl,rfl⟩ | exact .inr (.inl ⟨rfl,rfl⟩) | exact .inr (.inr ⟨rfl,fun _ _ h=>h⟩) | exact .inr (.inr ⟨rfl,fun _ _ h=>h.sub (List.sublist_cons_self ..)⟩)) (hg:Cv ops.toList l gd=F true:=by rfl):Rj P n ds d ops K (i::pl) pend (Mem C w0 A) l:=
 R.eff (Si:=fun x=>Mem C w0 (A' x)) (li:=fun x=>(t,v x)::l) ho hg rfl (fun a w K' ha hd hw hk=>by
  unfold Eo;rw[E7 ha hf hs hr he];exact(hc w hw).mono (by rintro e w' ⟨x,rfl,hm⟩;exact⟨_,rfl,hk x _ _ hm (hd _)⟩)) hp h
theorem R.c {v:Value} {f:FuncId} {fn:Operand} {fs cs:Array Value} {args:List Operand} {ts:Array TypeId} {vs aq:List Value}
  (hc:∀ w,Mem C w0 A w->Calls P f aq.toArray w fun e w'=>e=.returned v/\Below w.heap.size w w') (h:Rj P n ds d ops K pl pend (Mem C w0 A) ((t,v)::l))
  (ho:Aw ops.toList i=F ⟨F t,.call {callee:=.value fn,args:=args.toArray,argTypes:=ts},ty,ps,af,gd⟩:=by rfl) (hf:ev l fn=F (.func (.func f) fs cs):=by rfl) (hs:evs l args=F vs:=by rfl) (he:fs.toList++(vs++cs.toList)=aq:=by rfl) (hr:∀ args w,(callFunc f args).run P w=.ok (.enter f args) w:=by intro args w;simp;first | done | fail)
  (hg:Cv ops.toList l gd=F true:=by rfl):Rj P n ds d ops K (i::pl) pend (Mem C w0 A) l:=
 R.cx (ι:=Unit) (v:=fun _=>v) (A':=fun _=>A) (fun w hw=>(hc w hw).mono (by rintro e w' ⟨rfl,hb⟩;exact⟨(),rfl,hw.below hb⟩)) (fun _=>h) ho hf hs he hr (.inr (.inr ⟨rfl,fun _ _ h=>h⟩)) hg
end
section
variable {P:Program} {n:Nat} {ds:List Deferred} {k:List Je} {S:Y->Prop} {l:Env} {fn:Func} {R:Ending->Y->Prop}
def RL:List Value->List Nat->Env
 | v::vs,i::is=>(i,v)::RL vs is
 | _,_=>[]
theorem QK:∀ (vs:List Value) (m t:Nat) (v:Value),lk (RL vs ((List.range' m (100 - m)))) t=F v->m<=t/\vs[t - m]? =F v
 | [],m,t,v,h=>by cases h
 | u::vs,m,t,v,h=>by
  by_cases hm:m<100
  ·rw[show 100 - m=(100 - (m+1))+1 by omega,List.range'_succ] at h;unfold RL at h;rw[KJ] at h;split at h
   ·rename_i e;subst e;cases h;exact⟨Nat.le_refl _,by simp⟩
   ·obtain⟨h1,h2⟩:=QK vs (m+1) t v h;exact⟨by omega,by rw[show t - m=(t - (m+1))+1 by omega,List.getElem?_cons_succ];exact h2⟩
  ·rw[show 100 - m=0 by omega] at h;cases h
theorem Ade:nums=List.range' 0 (100 - 0):=by decide
def Aka:Code->Code
 | .scope c=>c
 | c=>c
theorem XK {P:Program} {c:Code} {Qz:Exit->Act->Y->Prop} {a:Act} {w:Y} (hQ:∀ l a w,¬Qz (.goto l) a w) (h:(Aka c).wpIn Fence.wide 0 P Qz a w):c.wpIn Fence.wide 0 P Qz a w:=by
 cases c with
 | scope c=>
  refine wpIn_wide.2 (wp_scope_straight (wpIn_wide.1 (wpIn_mono h fun e a w q=>?_)));cases e with
  | goto l=>exact hQ l a w q
  | _=>exact q
 | _=>exact h
theorem V.enter {f:FuncId} {c:Code} {args:Array Value} {w:Y} (S:Y->Prop) (hf:P.funcs[f]? =F fn) (hS:S w) (h:V P Fence.wide (bodyPostM Fence.wide 0 P fn R) fn.ntmps [] [.c (Aka c)] S (RL args.toList nums)) (hb:fn.body=F c:=by rfl) (hn:args.size<=fn.ntmps:=by exact Nat.le_of_ble_eq_true rfl):Calls P f args w R:=by
 refine(callsIn_wide (n:=0)).1 (callsIn_of_wp_marks hf hb trivial ?_ rfl);have hk:Kn fn.ntmps [] (RL args.toList nums) {tmps:=args++Array.replicate (fn.ntmps - args.size) undef,defers:=[]}:=by
  refine⟨by simp;omega,rfl,fun t v ht=>?_⟩;rw[Ade] at ht;obtain⟨_,h2⟩:=QK _ _ _ _ ht;rw[Nat.sub_zero,Array.getElem?_toList] at h2;have hlt:=(Gl h2)
  rw[Array.getD_eq_getD_getElem?,Array.getElem?_append_left hlt,h2];rfl
 have h1:=(KO ..).1 (h _ w hk hS);refine XK (fun l a w q=>q) (wpIn_mono h1 fun e a w q=>?_);cases e<;>exact q
def rvs (l:Env):List ResultVar->Option (List Value)
 | []=>F []
 | .tmp t::r=>match lk l t with
  | some v=>match rvs l r with
   | some vs=>F (v::vs)
   | none=>O
  | none=>O
 | .cell .. ::_=>O
def one:List Value->Value
 | [v]=>v
 | vs=>.tuple vs.toArray
theorem Km {a:Act} {w:Y} (ha:Kn n ds l a) {vs:List Value} (h:rvs l fn.results.toList=F vs):(results fn a.tmps).run P w=.ok (one vs) w:=by
 have key:∀ (rs:List ResultVar) (vs:List Value),rvs l rs=F vs->(rs.mapM (m:=Sem) (fun | .tmp t=>pure (a.tmps.getD t undef) | .cell x t=>do loadVar t (<- asAddr (a.tmps.getD x undef)))).run P w=.ok vs w:=by
  intro rs;induction rs with
  | nil=>intro vs h;cases h;rfl
  | cons r rs ih=>
   intro vs h;cases r with
   | cell x t=>cases h
   | tmp t=>
    unfold rvs at h;split at h
    ·rename_i v hv;split at h
     ·rename_i us hu;cases h
      simp only[List.mapM_cons,Sem.run_bind,ha.get t v hv]
      rw[show(pure v:Sem Value).run P w=.ok v w from rfl];simp only[Result.andThen_ok,ih us hu]
      rfl
     ·cases h
    ·cases h
 obtain⟨rs,hr⟩:∃ rs,fn.results.toList=rs:=⟨_,rfl⟩
 have hf:fn.results=rs.toArray:=by rw[<- hr]
 rw[hr] at h;unfold results;rw[hf,List.mapM_toArray];simp only[map_eq_pure_bind,Sem.run_bind]
 have h2:=key rs vs h;refine(congrArg (fun r:Result (List Value)=>(r.andThen fun x w'=>Sem.run P (pure x.toArray) w').andThen fun x w'=>Sem.run P (pure (if h:x.size=1 then x[0] else Value.tuple x)) w') h2).trans ?_
 match vs with
 | []=>rfl
 | [v]=>rfl
 | u::v::r=>simp[Sem.run,pure,one,Result.andThen]
theorem V.ret {vs:List Value} (hR:∀ w,S w->R (.returned (one vs)) w) (h:G8 400 O k=.ret:=by rfl) (hv:rvs l fn.results.toList=F vs:=by rfl):V P Fence.wide (bodyPostM Fence.wide 0 P fn R) n [] k S l:=
 V.at h fun a w ha hw=>by
  show LeavesInM Fence.wide 0 P fn a.tmps R a.defers .returning w;rw[ha.defers];exact⟨_,Km ha hv,hR w hw⟩
theorem V.fin {vs:List Value} (hR:∀ w,S w->R (.returned (one vs)) w) (h:G8 400 O k=.fin:=by rfl) (hv:rvs l fn.results.toList=F vs:=by rfl):V P Fence.wide (bodyPostM Fence.wide 0 P fn R) n [] k S l:=
 V.at h fun a w ha hw=>by
  show LeavesInM Fence.wide 0 P fn a.tmps R a.defers .returning w;rw[ha.defers];exact⟨_,Km ha hv,hR w hw⟩
end
end
end Go.Proofs.YtdpppepmkeinaaaGreatDoor
