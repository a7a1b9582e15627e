/- What is proved: a part of the walk of the program and of its plain laws; no condition beside those that each theorem names. -/
import Derived.Test.YtdpppepmkeinaaaGreatDoorYa
import Derived.Deep.RegionHeld3
import Derived.OrdersIn
import Derived.RangeFuncCalls
import Derived.RowKit
import Derived.Stop.RegionWithIn
import Derived.Defers
import Derived.Sort.LoopGhostIn
namespace Go.Proofs.YtdpppepmkeinaaaGreatDoor
open Go Go.RowKit Go.Lib
open Go.Value renaming int->I,string->Q,slice->Z
open Go.IntKind renaming i64->J
open Option renaming none->O,some->F
open _root_.Go renaming World->Y
set_option linter.unusedSimpArgs false
set_option linter.unusedVariables false
set_option linter.unusedSectionVars false
section
abbrev Env:=List (Nat×Value)
def lk:Env->Nat->Option Value
 | [],_=>O
 | (t,v)::l,n=>bif Nat.beq t n then F v else lk l n
def ev (l:Env):Operand->Option Value
 | .tmp t=>lk l t
 | .const v=>F v
 | .global g=>F (.pointer (F ⟨g,0,O⟩))
 | .func f=>F (.func (.func f) #[] #[])
def evs (l:Env):List Operand->Option (List Value)
 | []=>F []
 | x::xs=>match ev l x with
  | some v=>match evs l xs with
   | some vs=>F (v::vs)
   | none=>O
  | none=>O
def GD (ρ:Operand->Value):List Operand->List Value->Prop
 | x::xs,v::vs=>ρ x=v/\GD ρ xs vs
 | _,_=>True
structure Kn (n:Nat) (ds:List Deferred) (l:Env) (a:Act):Prop where
 size:a.tmps.size=n
 defers:a.defers=ds
 get:∀ t v,lk l t=F v->a.tmps.getD t undef=v
section
variable {n:Nat} {ds:List Deferred} {l l':Env} {a:Act}
theorem Kn.ev (h:Kn n ds l a):∀ {x:Operand} {v:Value},ev l x=F v->a.eval x=v
 | .tmp t,v,e=>h.get t v e
 | .const v,_,e=>by cases e;rfl
 | .global g,_,e=>by cases e;rfl
 | .func f,_,e=>by cases e;rfl
theorem Kn.evs (h:Kn n ds l a):∀ (xs:List Operand) (vs:List Value),evs l xs=F vs->GD a.eval xs vs/\xs.map a.eval=vs
 | [],vs,e=>by cases e;exact⟨trivial,rfl⟩
 | x::xs,vs,e=>by
  unfold Go.Proofs.YtdpppepmkeinaaaGreatDoor.evs at e;split at e
  ·rename_i v hv;split at e
   ·rename_i us hu;cases e
    obtain⟨h1,h2⟩:=h.evs xs us hu;exact⟨⟨h.ev hv,h1⟩,by rw[List.map_cons,h.ev hv,h2]⟩
   ·cases e
  ·cases e
theorem Ajq {t m:Nat} (h:¬t=m):Nat.beq t m=false:=by
 cases hb:Nat.beq t m
 ·rfl
 ·exact absurd (Nat.eq_of_beq_eq_true hb) h
theorem Mw (t m:Nat) (v:Value) (l:Env):lk ((t,v)::l) m=if t=m then F v else lk l m:=by
 show(bif Nat.beq t m then F v else lk l m)=_;by_cases h:t=m
 ·subst h;simp[Nat.beq_refl]
 ·rw[if_neg h,Ajq h];rfl
theorem Kn.put (h:Kn n ds l a) {d:Nat} (hd:d<n) (v:Value):Kn n ds ((d,v)::l) (a.put (F d) v):=by
 refine⟨by simp[Act.put,h.size],by simp[Act.put,h.defers],fun t u hu=>?_⟩;rw[Mw] at hu;have hs:d<a.tmps.size:=by rw[h.size];exact hd
 split at hu
 ·rename_i e;subst e;cases hu
  simp[Act.put,hs]
 ·rename_i e;have:=h.get t u hu;simp only[Act.put,Array.getD_eq_getD_getElem?] at this |-;rw[Array.getElem?_setIfInBounds_ne e];exact this
theorem Kn.sub (h:Kn n ds l a) (hl:∀ t v,lk l' t=F v->lk l t=F v):Kn n ds l' a:=⟨h.size,h.defers,fun t v e=>h.get t v (hl t v e)⟩
end
def V4 (l:Env):Env->Prop
 | []=>True
 | (t,v)::r=>lk l t=F v/\V4 l r
theorem V4.lk {l:Env}:∀ {r:Env},V4 l r->∀ t v,lk r t=F v->lk l t=F v
 | [],_,t,v,e=>by cases e
 | (t0,v0)::r,h,t,v,e=>by
  rw[Mw] at e;split at e
  ·rename_i e0;subst e0;cases e;exact h.1
  ·exact V4.lk h.2 t v e
inductive KL where
 | c (x:Code)
 | b (id:Nat)
 | e (Iz:Act->Y->Prop)
section
variable (P:Program) (Fz:Fence) (Qr:Exit->Act->Y->Prop)
def td:Option Nat->List KL->Act->Y->Prop
 | none,[],a,w=>Qr .normal a w
 | some i,[],a,w=>Qr (.exit i) a w
 | none,.c x::k,a,w=>x.wpIn Fz 0 P (fun e a w=>match e with | .normal=>td O k a w | .exit i=>td (F i) k a w | e=>Qr e a w) a w
 | none,.b _::k,a,w=>td O k a w
 | none,.e Iz::_,a,w=>Iz a w
 | some i,.b j::k,a,w=>if j=i then td O k a w else td (F i) k a w
 | some i,.c _::k,a,w=>td (F i) k a w
 | some i,.e _::k,a,w=>td (F i) k a w
def pk (k:List KL):Exit->Act->Y->Prop
 | .normal,a,w=>td P Fz Qr O k a w
 | .exit i,a,w=>td P Fz Qr (F i) k a w
 | e,a,w=>Qr e a w
theorem Nb (x:Code) (k:List KL) (a:Act) (w:Y):td P Fz Qr O (.c x::k) a w↔x.wpIn Fz 0 P (pk P Fz Qr k) a w:=by
 have:(fun(e:Exit) a w=>match e with | .normal=>td P Fz Qr O k a w | .exit i=>td P Fz Qr (F i) k a w | e=>Qr e a w)=pk P Fz Qr k:=by
  funext e a w;cases e<;>rfl
 unfold td;rw[this]
end
inductive Stp where
 | reg (id:Nat) (ops:Array Oper) (d:Bool) (k:List KL)
 | cond (c:Operand) (x y:Code) (k:List KL)
 | loop (x:Code) (k:List KL)
 | rf (f:Operand) (ps:Array Tmp) (x y:Code) (k:List KL)
 | ret | fin | non
 | ex (i:Nat)
 | out (Iz:Act->Y->Prop)
def IP:Nat->Option Nat->List KL->Stp
 | 0,_,_=>.non
 | _+1,O,[]=>.fin
 | _+1,F i,[]=>.ex i
 | n+1,O,.c x::k=>match x with
  | .skip=>IP n O k
  | .region id ops d=>.reg id ops d k
  | .seq x y=>IP n O (.c x:: .c y::k)
  | .cond c x y=>.cond c x y k
  | .block id x=>IP n O (.c x:: .b id::k)
  | .loop x=>.loop x k
  | .rangeFunc f ps x y=>.rf f ps x y k
  | .exit id=>IP n (F id) k
  | .label _=>IP n O k
  | .ret=>.ret
  | _=>.non
 | n+1,O,.b _::k=>IP n O k
 | _+1,O,.e Iz::_=>.out Iz
 | n+1,F i,.b j::k=>bif Nat.beq j i then IP n O k else IP n (F i) k
 | n+1,F i,.c _::k=>IP n (F i) k
 | n+1,F i,.e _::k=>IP n (F i) k
section
variable {P:Program} {Fz:Fence} {Qr:Exit->Act->Y->Prop}
def atS (P:Program) (Fz:Fence) (Qr:Exit->Act->Y->Prop):Stp->Act->Y->Prop
 | .reg id ops d k,a,w=>(Code.region id ops d).wpIn Fz 0 P (pk P Fz Qr k) a w
 | .cond c x y k,a,w=>(Code.cond c x y).wpIn Fz 0 P (pk P Fz Qr k) a w
 | .loop x k,a,w=>(Code.loop x).wpIn Fz 0 P (pk P Fz Qr k) a w
 | .rf f ps x y k,a,w=>(Code.rangeFunc f ps x y).wpIn Fz 0 P (pk P Fz Qr k) a w
 | .ret,a,w=>Qr .ret a w
 | .fin,a,w=>Qr .normal a w
 | .ex i,a,w=>Qr (.exit i) a w
 | .non,_,_=>False
 | .out Iz,a,w=>Iz a w
theorem Cy:∀ (n:Nat) (o:Option Nat) (k:List KL) (a:Act) (w:Y),atS P Fz Qr (IP n o k) a w->td P Fz Qr o k a w
 | 0,_,_,_,_,h=>by cases h
 | _+1,O,[],a,w,h=>h
 | _+1,F _,[],a,w,h=>h
 | n+1,O,.c x::k,a,w,h=>by
  rw[Nb];unfold IP at h;split at h
  ·exact wpIn_skip (Cy n _ _ _ _ h)
  ·exact h
  ·rename_i x y;have h1:=Cy n _ _ _ _ h;rw[Nb] at h1;refine wpIn_seq (wpIn_mono h1 fun e a w q=>?_);cases e with
   | normal=>exact(Nb P Fz Qr y k a w).1 q
   | exit i=>exact q
   | _=>exact q
  ·exact h
  ·rename_i id x;have h1:=Cy n _ _ _ _ h;rw[Nb] at h1;refine wpIn_block (wpIn_mono h1 fun e a w q=>?_);cases e with
   | exit i=>
    have q':td P Fz Qr (F i) (.b id::k) a w:=q;unfold td at q';show if i=id then _ else _
    by_cases hi:i=id
    ·rw[if_pos hi];rw[if_pos hi.symm] at q';exact q'
    ·rw[if_neg hi];rw[if_neg (fun e=>hi e.symm)] at q';exact q'
   | normal=>exact q
   | _=>exact q
  ·exact h
  ·exact h
  ·exact wpIn_exit (Cy n _ _ _ _ h)
  ·exact wpIn_label (Cy n _ _ _ _ h)
  ·exact wpIn_ret h
  ·cases h
 | n+1,O,.b _::k,a,w,h=>by unfold td;exact Cy n O k a w h
 | _+1,O,.e Iz::_,a,w,h=>by unfold td;exact h
 | n+1,F i,.b j::k,a,w,h=>by
  unfold IP at h;unfold td;by_cases e:j=i
  ·subst e;rw[if_pos rfl];simp only[Nat.beq_refl,cond_true] at h;exact Cy n O k a w h
  ·rw[if_neg e];have:Nat.beq j i=false:=by
    cases hb:Nat.beq j i
    ·rfl
    ·exact absurd (Nat.eq_of_beq_eq_true hb) e
   simp only[this,cond_false] at h;exact Cy n _ k a w h
 | n+1,F i,.c _::k,a,w,h=>by unfold td;exact Cy n _ k a w h
 | n+1,F i,.e _::k,a,w,h=>by unfold td;exact Cy n _ k a w h
end
def V (P:Program) (Fz:Fence) (Qr:Exit->Act->Y->Prop) (n:Nat) (ds:List Deferred) (k:List KL) (S:Y->Prop) (l:Env):Prop:=∀ a w,Kn n ds l a->S w->td P Fz Qr O k a w
section
variable {P:Program} {Fz:Fence} {Qr:Exit->Act->Y->Prop} {n:Nat} {ds:List Deferred} {k k':List KL} {S S':Y->Prop} {l l':Env}
theorem V.pre (h:V P Fz Qr n ds k S' l) (hs:∀ w,S w->S' w):V P Fz Qr n ds k S l:=fun a w ha hw=>h a w ha (hs w hw)
theorem V.if {c:Operand} {x y:Code} {t:Bool} (ht:t=true->V P Fz Qr n ds (.c x::k') S l) (hf:t=false->V P Fz Qr n ds (.c y::k') S l) (h:IP 400 O k=.cond c x y k':=by rfl) (hc:ev l c=F (.bool t):=by rfl):V P Fz Qr n ds k S l:=fun a w ha hw=>by
 refine Cy 400 _ _ _ _ ?_;rw[h];exact wpIn_cond_split (ha.ev hc) (fun e=>(Nb ..).1 (ht e a w ha hw)) (fun e=>(Nb ..).1 (hf e a w ha hw))
theorem V.ifp {c:Operand} {x y:Code} {p:Prop} [Decidable p] (ht:p->V P Fz Qr n ds (.c x::k') S l) (hf:¬p->V P Fz Qr n ds (.c y::k') S l) (h:IP 400 O k=.cond c x y k':=by rfl) (hc:ev l c=F (.bool (decide p)):=by rfl):V P Fz Qr n ds k S l:=
 V.if (fun e=>ht (of_decide_eq_true e)) (fun e=>hf (of_decide_eq_false e)) h hc
theorem V.tt {c:Operand} {x y:Code} {t:Bool} (e:t=true) (h:IP 400 O k=.cond c x y k':=by rfl) (hc:ev l c=F (.bool t):=by rfl):(V P Fz Qr n ds (.c x::k') S l)->V P Fz Qr n ds k S l:=fun ht=>
 V.if (fun _=>ht) (fun e'=>by rw[e] at e';cases e') h hc
theorem V.ff {c:Operand} {x y:Code} {t:Bool} (e:t=false) (h:IP 400 O k=.cond c x y k':=by rfl) (hc:ev l c=F (.bool t):=by rfl):(V P Fz Qr n ds (.c y::k') S l)->V P Fz Qr n ds k S l:=fun hf=>
 V.if (fun e'=>by rw[e] at e';cases e') (fun _=>hf) h hc
theorem V.at {st:Stp} (h:IP 400 O k=st) (hq:∀ a w,Kn n ds l a->S w->atS P Fz Qr st a w):V P Fz Qr n ds k S l:=fun a w ha hw=>Cy 400 _ _ _ _ (by rw[h];exact hq a w ha hw)
theorem V.out {Iz:Act->Y->Prop} (hq:∀ a w,Kn n ds l a->S w->Iz a w) (h:IP 400 O k=.out Iz:=by rfl):V P Fz Qr n ds k S l:=V.at h hq
def agn {ι:Type} (n:Nat) (ds:List Deferred) (ok:ι->Prop) (Si:ι->Y->Prop) (li:ι->Env) (μ:ι->Nat) (m:Nat) (a:Act) (w:Y):Prop:=∃ j,ok j/\μ j<m/\Kn n ds (li j) a/\Si j w
theorem V.loop {ι:Type} {x:Code} (ok:ι->Prop) (Si:ι->Y->Prop) (li:ι->Env) (μ:ι->Nat) (i0:ι) (hi:ok i0) (h0:∀ w,S w->Si i0 w) (hl:V4 l (li i0))
  (hr:∀ i,ok i->V P Fz Qr n ds (.c x:: .e (agn n ds ok Si li μ (μ i))::k') (Si i) (li i)) (h:IP 400 O k=.loop x k':=by rfl):V P Fz Qr n ds k S l:=V.at h fun a w ha hw=>by
 refine wpIn_loop_ghost (fun m a w=>∃ i,ok i/\μ i=m/\Kn n ds (li i) a/\Si i w) (μ i0) ⟨i0,hi,rfl,ha.sub hl.lk,h0 w hw⟩ ?_;rintro m a w ⟨i,hi,rfl,ha,hw⟩;refine wpIn_mono ((Nb ..).1 (hr i hi a w ha hw)) fun e a' w' q=>?_;cases e with
 | normal=>
  obtain⟨j,h0,h1,h2,h3⟩:=q;exact⟨μ j,h1,j,h0,rfl,h2,h3⟩
 | exit i=>exact q
 | _=>exact q
theorem V.again {ι:Type} {ok:ι->Prop} {li:ι->Env} {Si:ι->Y->Prop} {m:Nat} {μ:ι->Nat} (j:ι) (h:IP 400 O k=.out (agn n ds ok Si li μ m):=by rfl) (hj:ok j:=by(try dsimp only);omega) (hm:μ j<m:=by(try dsimp only);omega) (hl:V4 l (li j):=by repeat (first | exact trivial | refine⟨rfl,?_⟩)) (hs:∀ w,S w->Si j w:=by exact fun w h=>h.sel):V P Fz Qr n ds k S l:=
 V.at h fun a w ha hw=>⟨j,hj,hm,ha.sub hl.lk,hs w hw⟩
end
end
end Go.Proofs.YtdpppepmkeinaaaGreatDoor
