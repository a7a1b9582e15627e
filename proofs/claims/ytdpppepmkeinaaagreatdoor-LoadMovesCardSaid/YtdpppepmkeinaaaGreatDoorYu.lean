/- What is proved: a part of the walk of the program and of its plain laws; no condition beside those that each theorem names. -/
import Derived.Test.YtdpppepmkeinaaaGreatDoorYt
import Derived.Test.YtdpppepmkeinaaaGreatDoorYl
import Derived.Test.YtdpppepmkeinaaaGreatDoorYa
import Derived.Maps.AppendAt
import Derived.WideKeyRuns
import Derived.Laws.StructEq
namespace Go.Proofs.YtdpppepmkeinaaaGreatDoor
open Go Go.RowKit Go.Lib
open Go.Value renaming int->I,string->Q,slice->Z
open Go.IntKind renaming i64->J
open Option renaming none->O,some->F
open _root_.Go renaming World->Y
set_option linter.unusedSimpArgs false
set_option linter.unusedVariables false
set_option linter.unusedSectionVars false
section
def An (e:TypeId) (sz:Nat) (v:Value) (n:Nat) (xs:List Value):Aw:=⟨fun Fz w=>w.ownsRow 0 e sz v n xs/\∀ b,v.ownBlock=F b->Fz b,fun Fz w w' h x=>by
 obtain⟨⟨h1,h2⟩,h3⟩:=x;refine⟨⟨h1,?_⟩,h3⟩;rcases h2 with h2 | ⟨g,cap,cur,hv,h0,hg,r⟩
 ·exact .inl h2
 ·exact .inr ⟨g,cap,cur,hv,h0,(h g (h3 g (by rw[hv];rfl))).trans hg,r⟩⟩
structure El (P:Program) (tt e:TypeId) (sz bytes:Nat):Prop where
 und:P.underlying tt=F (.slice e)
 info:(P.info? e).map (fun i=>(i.zero.map (·.cells.size),i.size,i.bytes))=F (F sz,sz,bytes)
 pos:0<sz
 small:bytes<=1000
section
variable {P:Program} {Fz:Fence} {Qr:Exit->Act->Y->Prop} {n:Nat} {ds:List Deferred} {d:Bool} {ops:Array Oper} {K:Act->Y->Prop} {i:Nat} {pl pend pend':List Nat} {l l':Env}
 {t:Nat} {ty:TypeId} {ps:String} {af:Array Edge} {gd:Option (Nat×Bool)} {C:Nat->Prop} {w0:Y} {A:List Aw}
theorem R.bs {op:Op} {vs cs:List Value} {bt:TypeId} {m:Nat} (h:∀ b,w0.heap.size<=b->Rj P n ds d ops K pl pend (Mem C w0 (blk b cs bt::A)) ((t,Z (F ⟨b,0,O⟩) m m)::l)) (ho:AQ ops.toList i=F ⟨F t,op,ty,ps,af,gd⟩:=by rfl) (hg:D0 ops.toList l gd=F true:=by rfl)
  (hs:evs l op.operands.toList=F vs:=by rfl) (hq:quiet P op=false:=by first | rfl | kernel_rfl)
  (hv:∀ ρ w,GD ρ op.operands.toList vs->(execOp ρ ⟨F t,op,ty,ps,af,gd⟩).run P w=.ok (.value (Z (F ⟨w.heap.size,0,O⟩) m m)) (w.alloc (.cells cs.toArray bt)):=by intro ρ w h;simp only[Op.operands,Call.operands,GD,Array.toList_append,List.toList_toArray,List.map_cons,List.map_nil,List.nil_append,List.cons_append] at h;simp[go_sem,h];(first | rfl | exact⟨rfl,rfl⟩ | skip);first | done | fail):Rj P n ds d ops K (i::pl) pend (Mem C w0 A) l:=
 R.eff (ι:={b:Nat // w0.heap.size<=b}) (Si:=fun b=>Mem C w0 (blk b.1 cs bt::A)) (li:=fun b=>(t,Z (F ⟨b.1,0,O⟩) m m)::l) ho hg hq
  (fun a w K' ha hd hw hk=>by
   unfold FI;rw[hv a.eval w (ha.evs _ _ hs).1];exact hk ⟨w.heap.size,hw.1.size⟩ _ _ (hw.alloc cs bt) (hd _)) (.inr (.inr ⟨rfl,fun x w h=>h.sub (List.sublist_cons_self ..)⟩)) (fun x=>h x.1 x.2)
theorem R.bo {op:Op} {vs cs:List Value} {bt:TypeId} {m sz:Nat} (hm:cs.length=m*sz) (hle:m<=1000000) (h:∀ b,w0.heap.size<=b->Rj P n ds d ops K pl pend (Mem C w0 (An bt sz (Z (F ⟨b,0,O⟩) m m) m cs::A)) ((t,Z (F ⟨b,0,O⟩) m m)::l)) (ho:AQ ops.toList i=F ⟨F t,op,ty,ps,af,gd⟩:=by rfl) (hg:D0 ops.toList l gd=F true:=by rfl)
  (hs:evs l op.operands.toList=F vs:=by rfl) (hq:quiet P op=false:=by first | rfl | kernel_rfl)
  (hv:∀ ρ w,GD ρ op.operands.toList vs->(execOp ρ ⟨F t,op,ty,ps,af,gd⟩).run P w=.ok (.value (Z (F ⟨w.heap.size,0,O⟩) m m)) (w.alloc (.cells cs.toArray bt)):=by intro ρ w h;simp only[Op.operands,Call.operands,GD,Array.toList_append,List.toList_toArray,List.map_cons,List.map_nil,List.nil_append,List.cons_append] at h;simp[go_sem,h];(first | rfl | exact⟨rfl,rfl⟩ | skip);first | done | fail):Rj P n ds d ops K (i::pl) pend (Mem C w0 A) l:=
 R.eff (ι:={b:Nat // w0.heap.size<=b}) (Si:=fun b=>Mem C w0 (An bt sz (Z (F ⟨b.1,0,O⟩) m m) m cs::A)) (li:=fun b=>(t,Z (F ⟨b.1,0,O⟩) m m)::l) ho hg hq
  (fun a w K' ha hd hw hk=>by
   unfold FI;rw[hv a.eval w (ha.evs _ _ hs).1];refine hk ⟨w.heap.size,hw.1.size⟩ _ _ (hw.push (Fz:=fun b=>b=w.heap.size) ((Bq _ w).alloc Nr _) ⟨⟨hm,.inr ⟨_,m,cs.toArray,rfl,Nat.zero_le _,Wn w _,Nat.le_refl _,by unfold maxLen;omega,by simp[hm],by rw[List.toList_toArray,List.take_of_length_le (by omega)]⟩⟩,fun b hb=>by cases hb;rfl⟩ (fun b hb=>by subst hb;exact⟨Nat.le_refl _,by simp⟩)) (hd _)) (.inr (.inr ⟨rfl,fun x w h=>h.sub (List.sublist_cons_self ..)⟩)) (fun x=>h x.1 x.2)
theorem Cs.add {w:Y} {b o:Nat} {vs:List Value} (h:Cs w b o vs):∀ j u,vs[j]? =F u->w.cell? ((⟨b,o,O⟩:Addr).add j)=F u:=fun j u hj=>by
 have hadd:(⟨b,o,O⟩:Addr).add j=⟨b,o+j,O⟩:=by unfold Addr.add;split<;>simp_all
 rw[hadd];exact h j u hj
theorem R.app {s x:Operand} {tt e sz bytes k m c:Nat} {ad:Addr} {v:Value} {xs news:List Value} {A':Value->List Aw} (hE:El P tt e sz bytes) (hc:∀ w,Mem C w0 A w->∀ j u,news[j]? =F u->w.cell? (ad.add j)=F u) (hnm:k+m<=1000000)
  (h:∀ a c,Rj P n ds d ops K pl pend' (Mem C w0 (A' (Z a (k+m) c))) ((t,Z a (k+m) c)::l))
  (ho:AQ ops.toList i=F ⟨F t,.call {callee:=.builtin .append,args:=#[s,x],argTypes:=#[tt,tt]},ty,ps,af,gd⟩:=by rfl) (hs:ev l s=F v:=by rfl) (hx:ev l x=F (Z (F ad) m c):=by rfl)
  (hr:∀ v',E5 (An e sz v k xs) (An e sz v' (k+m) (xs++news)) A (A' v'):=by intro v';(repeat (first | exact E5.hd | apply E5.tl));first | done | fail) (hl:news.length=m*sz:=by rfl) (h1:news.all Value.oneCell'=true:=by rfl)
  (hp:Wq (ι:=Option Addr×Nat) d ops i pend pend' (fun y=>Mem C w0 (A' (Z y.1 (k+m) y.2))) (Mem C w0 A):=by first | exact .inl ⟨rfl,rfl⟩ | exact .inr (.inl ⟨rfl,rfl⟩)) (hg:D0 ops.toList l gd=F true:=by rfl):Rj P n ds d ops K (i::pl) pend (Mem C w0 A) l:=
 R.eff (ι:=Option Addr×Nat) (Si:=fun y=>Mem C w0 (A' (Z y.1 (k+m) y.2))) (li:=fun y=>(t,Z y.1 (k+m) y.2)::l) ho hg rfl (fun a w K' ha hd hw hk=>by
  obtain⟨i0,z,hi,hz,hzs,hsz,hby⟩:∃ i0 z,P.info? e=F i0/\i0.zero=F z/\z.cells.size=sz/\i0.size=sz/\i0.bytes=bytes:=by
   have:=hE.info;cases hi:P.info? e with
   | none=>rw[hi] at this;cases this
   | some i0=>
    rw[hi] at this;simp only[Option.map_some,Option.some.injEq,Prod.mk.injEq] at this;obtain⟨h1,h2,h3⟩:=this;cases hz:i0.zero with
    | none=>rw[hz] at h1;cases h1
    | some z=>rw[hz] at h1;simp at h1;exact⟨i0,z,rfl,hz,h1,h2,h3⟩
  obtain⟨G,⟨g1,g2⟩,g3,_⟩:=hw.rep (hr v);have hcs:=hc w hw;have hnews:=hcs;obtain⟨v',w',hrun,k1,k2,_,k4⟩:=run_append_own_at (P:=P) w 0 tt ty e i0 z sz bytes hE.und hi hz hsz hby hzs hE.pos v k xs g1 ad m c news hl hnews (fun u hu=>List.all_eq_true.1 h1 u hu) (by unfold maxLen;omega)
   (Nat.le_trans (Nat.mul_le_mul hnm hE.small) (by decide)) (Nat.zero_le _)
  obtain⟨G2,⟨_,i2⟩,i3,i4⟩:=hw.rep (hr v');obtain⟨a',c',hv'⟩:∃ a' c',v'=Z a' (k+m) c':=by
   rcases k1.2 with ⟨e1,e2⟩ | ⟨g,cap,cur,e1,_⟩
   ·exact⟨O,0,by rw[e1,e2]⟩
   ·exact⟨_,cap,e1⟩
  subst hv';have hm:Mem C w0 (A' (Z a' (k+m) c')) w':=by
   refine i4 (fun b=>(Value.slice a' (k+m) c').ownBlock=F b) w' ⟨k1,fun b hb=>hb⟩ ⟨k2.os,k2.tape,k2.output,k2.size,fun b hb hn=>k2.block b hb (fun e=>hn (i2 b e.symm))⟩ (fun b hb=>⟨?_,?_⟩)
   ·rcases k1.2 with ⟨e1,_⟩ | ⟨g,cap,cur,e1,_,hg,_⟩
    ·rw[e1] at hb;cases hb
    ·rw[e1] at hb;cases hb;exact(Gl hg)
   ·rcases k4 with k4 | k4
    ·exact .inl (i2 b (k4.symm.trans hb))
    ·rw[k4] at hb;cases hb;exact .inr Nr
  unfold FI;have:(execOp a.eval ⟨F t,.call {callee:=.builtin .append,args:=#[s,x],argTypes:=#[tt,tt]},ty,ps,af,gd⟩).run P w=.ok (.value (Z a' (k+m) c')) w':=by
   simp[execOp,resolve,invoke,builtin,Sem.run_bind,pure,ha.ev hs,ha.ev hx,hrun]
  rw[this];exact hk (a',c') _ _ hm (hd _)) hp (fun y=>h y.1 y.2)
end
end
section
section
variable {κ:Type} [DecidableEq κ]
def AT {β:Type} (x:κ):List (κ×β)->Option β
 | []=>O
 | (y,u)::r=>if y=x then F u else AT x r
def mput {β:Type} (x:κ) (v:β):List (κ×β)->List (κ×β)
 | []=>[(x,v)]
 | (y,u)::r=>if y=x then (x,v)::r else (y,u)::mput x v r
def EF {β:Type} (x:κ):List (κ×β)->Option Nat
 | []=>O
 | (y,u)::r=>if y=x then F 0 else (EF x r).map (·+1)
def Ce {β:Type} (f:β->Value) (m:List (κ×β)):List (κ×Value):=m.map fun p=>(p.1,f p.2)
theorem FJ {β:Type} (f:β->Value) (x:κ):∀ m:List (κ×β),AT x (Ce f m)=(AT x m).map f
 | []=>rfl
 | (y,u)::r=>by
  show AT x ((y,f u)::Ce f r)=_;unfold AT;by_cases h:y=x
  ·rw[if_pos h,if_pos h];rfl
  ·rw[if_neg h,if_neg h];exact FJ f x r
theorem L3 {β:Type} (f:β->Value) (x:κ) (v:β):∀ m:List (κ×β),mput x (f v) (Ce f m)=Ce f (mput x v m)
 | []=>rfl
 | (y,u)::r=>by
  show mput x (f v) ((y,f u)::Ce f r)=_;unfold mput;by_cases h:y=x
  ·rw[if_pos h,if_pos h];rfl
  ·rw[if_neg h,if_neg h,L3 f x v r];rfl
def Jz (enc:κ->Value) (m:List (κ×Value)) (es:List MapEntry):Prop:=es.map (fun e=>(e.key,e.val))=m.map (fun p=>(enc p.1,p.2))
def MZ (enc:κ->Value) (b:Nat) (m:List (κ×Value)):Aw:=⟨fun Fz w=>Fz b/\∃ (es:Array MapEntry) (clock:Nat),w.heap[b]? =F (.map es clock)/\Jz enc m es.toList,fun Fz w w' h ⟨x,es,c,hb,hm⟩=>⟨x,es,c,(h b x).trans hb,hm⟩⟩
structure L2 (P:Program) (k:TypeId) (enc:κ->Value):Prop where
 check:∀ em x w,(Instr.checkKey em 10000 k (enc x)).run P w=.ok () w
 find:∀ x (m:List (κ×Value)) (es:List MapEntry) w,Jz enc m es->(Instr.findKey k (enc x) es).run P w=.ok ((EF x m).bind fun i=>(es[i]?).map fun e=>(i,e.val)) w
 same:∀ x,Instr.sameBits 10000 (enc x) (enc x)=true
theorem SS {x:κ}:∀ {m:List (κ×Value)},(match EF x m with | some i=>(m[i]?).map (·.2) | none=>O)=AT x m
 | []=>rfl
 | (y,u)::r=>by
  unfold EF AT;by_cases h:y=x
  ·rw[if_pos h,if_pos h];rfl
  ·rw[if_neg h,if_neg h];have:=SS (x:=x) (m:=r);cases hm:EF x r with
   | none=>rw[hm] at this;simpa using this
   | some i=>rw[hm] at this;simpa using this
theorem Tw {enc:κ->Value} {m:List (κ×Value)} {es:List MapEntry} (h:Jz enc m es) (i:Nat):(es[i]?).map (fun e=>(e.key,e.val))=(m[i]?).map (fun p=>(enc p.1,p.2)):=by
 have:=congrArg (fun l=>l[i]?) h;simpa using this
theorem Na {x:κ}:∀ {m:List (κ×Value)} {i:Nat},EF x m=F i->∃ u,m[i]? =F (x,u)
 | [],i,h=>by cases h
 | (y,u)::r,i,h=>by
  unfold EF at h;by_cases e:y=x
  ·rw[if_pos e] at h;cases h;exact⟨u,by rw[e];rfl⟩
  ·rw[if_neg e] at h;cases hm:EF x r with
   | none=>rw[hm] at h;cases h
   | some j=>rw[hm] at h;cases h;obtain⟨v,hv⟩:=Na hm;exact⟨v,hv⟩
theorem OJ {x:κ} {v:Value}:∀ {m:List (κ×Value)},EF x m=O->mput x v m=m++[(x,v)]
 | [],_=>rfl
 | (y,u)::r,h=>by
  unfold EF at h;by_cases e:y=x
  ·rw[if_pos e] at h;cases h
  ·rw[if_neg e] at h;cases hm:EF x r with
   | none=>unfold mput;rw[if_neg e,OJ hm];rfl
   | some j=>rw[hm] at h;cases h
theorem Pi {x:κ} {v:Value}:∀ {m:List (κ×Value)} {i:Nat},EF x m=F i->mput x v m=m.set i (x,v)
 | [],i,h=>by cases h
 | (y,u)::r,i,h=>by
  unfold EF at h;by_cases e:y=x
  ·rw[if_pos e] at h;cases h;unfold mput;rw[if_pos e];rfl
  ·rw[if_neg e] at h;cases hm:EF x r with
   | none=>rw[hm] at h;cases h
   | some j=>rw[hm] at h;cases h;unfold mput;rw[if_neg e,Pi hm];rfl
end
def lkV (ok:Bool) (z:Value):Option Value->Value
 | some v=>if ok then .tuple #[v,.bool true] else v
 | none=>if ok then .tuple #[z,.bool false] else z
section
variable {κ:Type} [DecidableEq κ] {P:Program} {enc:κ->Value} {b:Nat} {m:List (κ×Value)} {w:Y} {t k e:TypeId}
theorem T5 (hK:L2 P k enc) (ht:P.underlying t=F (.map k e)) {z:Value} (hz:(zeroValue e).run P w=.ok z w) (ok:Bool) (x:κ) {es:Array MapEntry} {c:Nat} (hb:w.heap[b]? =F (.map es c)) (hm:Jz enc m es.toList):
  (Instr.lookup t (.map (F b)) (enc x) ok).run P w=.ok (lkV ok z (AT x m)) w:=by
 have hg:(getObj b).run P w=.ok (.map es c) w:=by simp[getObj,Sem.run,hb]
 have hv:((EF x m).bind fun i=>(es.toList[i]?).map fun e=>(i,e.val)).map (·.2)=AT x m:=by
  rw[<- SS];cases hi:EF x m with
  | none=>rfl
  | some i=>
   have:=congrArg (Option.map (·.2)) (Tw hm i);simp only[Option.map_map] at this;simp only[Option.bind_some,Option.map_map]
   exact this
 unfold Instr.lookup;simp only[Sem.run_bind,run_underlying ht,Result.andThen_ok,hg,hK.check,hK.find x m es.toList w hm]
 rw[show(pure es:Sem (Array MapEntry)).run P w=.ok es w from rfl];simp only[Result.andThen_ok,hK.check,hK.find x m es.toList w hm,<- hv]
 cases hi:(EF x m).bind fun i=>(es.toList[i]?).map fun e=>(i,e.val) with
 | none=>cases ok<;>simp[hz,lkV,pure,Sem.run]
 | some p=>obtain⟨i,v⟩:=p;simp[lkV,pure,Sem.run]
theorem Nt {es:Array MapEntry} {c:Nat} (o:Obj) (hb:w.heap[b]? =F (.map es c)):(setObj b o).run P w=.ok () (w.putObj b o):=by simp[setObj,Sem.run,hb,World.putObj]
theorem Af6 {x:κ} {i:Nat} (h:EF x m=F i):i<m.length:=by
 obtain⟨u,hu⟩:=Na h;exact(List.getElem?_eq_some_iff.1 hu).1
theorem Ae3 (hK:L2 P k enc) (ht:P.underlying t=F (.map k e)) (x:κ) (v:Value) {es:Array MapEntry} {c:Nat} (hb:w.heap[b]? =F (.map es c)) (hm:Jz enc m es.toList):
  ∃ es' c',(Instr.mapUpdate t (.map (F b)) (enc x) v).run P w=.ok () (w.putObj b (.map es' c'))/\Jz enc (mput x v m) es'.toList:=by
 have hg:(getObj b).run P w=.ok (.map es c) w:=by simp[getObj,Sem.run,hb]
 have hlen:es.toList.length=m.length:=by have:=congrArg List.length hm;simpa using this
 unfold Instr.mapUpdate;simp only[Sem.run_bind,run_underlying ht,Result.andThen_ok,hg,hK.check,hK.find x m es.toList w hm]
 cases hi:EF x m with
 | none=>
  refine⟨_,_,Nt _ hb,?_⟩;rw[OJ hi];unfold Jz at hm |-;simp[hm]
 | some i=>
  have hlt:=Af6 hi;obtain⟨u,hu⟩:=Na hi;have hlt':i<es.size:=by have:=hlen;simp at this;omega
  have hk:es[i].key=enc x:=by
   have:=Tw hm i;rw[hu,List.getElem?_eq_getElem (by simpa using hlt')] at this;simp at this;exact this.1
  have hki:((es[i]?).map (·.key)).getD (enc x)=enc x:=by rw[Array.getElem?_eq_getElem hlt'];exact hk
  have hst:(Instr.keyThatStays (enc x) (enc x)).run P w=.ok (enc x) w:=by unfold Instr.keyThatStays;rw[if_pos (hK.same x)];rfl
  refine⟨es.modify i fun e=>{e with key:=enc x,val:=v},c,?_,?_⟩
  ·simp only[Option.bind_some,List.getElem?_eq_getElem (show i<es.toList.length by simpa using hlt'),Option.map_some]
   simp only[Sem.run_bind,hki,hst,Result.andThen_ok]
   exact Nt _ hb
  ·rw[Pi hi];unfold Jz at hm |-;apply List.ext_getElem?;intro j;have h0:=congrArg (fun l=>l[j]?) hm;simp only[List.getElem?_map,Array.getElem?_toList] at h0;simp only[List.getElem?_map,Array.getElem?_toList,Array.getElem?_modify,List.getElem?_set]
   by_cases e:i=j
   ·subst e;simp[hlt,hlt']
   ·simp[e,h0]
theorem L2.plain {k:TypeId} {dk:TypeDesc} (hd:P.underlying k=F dk) (hp:(match dk with | .interface .. =>false | .array .. =>false | .struct .. =>false | _=>true)=true) (hn:∀ x y,Instr.sameNow dk (enc x) (enc y)=F (decide (x=y))) (hs:∀ x,Instr.sameBits 10000 (enc x) (enc x)=true):L2 P k enc where
 check em x w:=by
  unfold Instr.checkKey;simp only[Sem.run_bind,run_underlying hd,Result.andThen_ok]
  cases dk<;>first | (cases hp;first | done | fail) | rfl
 find x m es w hm:=by
  have key:∀ (m:List (κ×Value)) (es:List MapEntry) (i:Nat),Jz enc m es->Instr.findNow dk (enc x) es i=F ((EF x m).bind fun j=>(es[j]?).map fun e=>(i+j,e.val)):=by
   intro m;induction m with
   | nil=>
    intro es i h;have:es=[]:=by simpa[Jz] using h
    subst this;rfl
   | cons p r ih=>
    intro es i h;obtain⟨y,u⟩:=p;cases es with
    | nil=>cases h
    | cons e0 es=>
     unfold Jz at h;simp only[List.map_cons,List.cons.injEq,Prod.mk.injEq] at h;obtain⟨⟨h1,h2⟩,h3⟩:=h;unfold Instr.findNow EF;rw[h1,hn];by_cases e:x=y
     ·rw[decide_eq_true e,if_pos e.symm];simp
     ·rw[decide_eq_false e,if_neg (fun h=>e h.symm)];simp only[ih es (i+1) h3]
      cases EF x r with
      | none=>rfl
      | some j=>simp[Nat.add_assoc,Nat.add_comm 1 j]
  have:=key m es 0 hm;simp only[Nat.zero_add] at this;unfold Instr.findKey;simp only[Sem.run_bind,run_underlying hd,Result.andThen_ok,this]
  rfl
 same:=hs
end
section
variable {κ:Type} [DecidableEq κ] {P:Program} {n:Nat} {ds:List Deferred} {d:Bool} {ops:Array Oper} {K:Act->Y->Prop} {i:Nat} {pl pend pend':List Nat} {l l':Env}
 {t:Nat} {ty:TypeId} {ps:String} {af:Array Edge} {gd:Option (Nat×Bool)} {C:Nat->Prop} {w0:Y} {A A':List Aw} {enc:κ->Value} {b:Nat} {m:List (κ×Value)} {tt k e:TypeId}
theorem R.look {x y:Operand} {ok:Bool} {z:Value} (q:κ) (hK:L2 P k enc) (h:Rj P n ds d ops K pl (i::pend) (Mem C w0 A) ((t,lkV ok z (AT q m))::l)) (ho:AQ ops.toList i=F ⟨F t,.lookup tt x y ok,ty,ps,af,gd⟩:=by rfl)
  (hx:ev l x=F (.map (F b)):=by rfl) (hy:ev l y=F (enc q):=by rfl) (hb:MZ enc b m∈A:=by(repeat (first | exact List.Mem.head _ | apply List.Mem.tail));first | done | fail) (ht:P.underlying tt=F (.map k e):=by kernel_rfl) (hz:∀ w,(zeroValue e).run P w=.ok z w:=by intro w;simp;(try rfl);first | done | fail) (hg:D0 ops.toList l gd=F true:=by rfl):Rj P n ds d ops K (i::pl) pend (Mem C w0 A) l:=
 R.takeS ho hg rfl (fun a w ha hw=>by
  obtain⟨Fz,⟨_,es,c,h1,h2⟩,_⟩:=hw.has hb;have:=T5 hK ht (hz w) ok q h1 h2;simp[execOp,ha.ev hx,ha.ev hy,Sem.run_bind,this,pure,Sem.run]) h
def Mp (w:Y) (enc:κ->Value) (b:Nat) (m:List (κ×Value)):Prop:=∃ (es:Array MapEntry) (c:Nat),w.heap[b]? =F (.map es c)/\Jz enc m es.toList
theorem Mp.ext {w:Y} (h:Mp w0 enc b m) (hx:B4 C w0 w) (hn:¬C b):Mp w enc b m:=let ⟨es,c,h1,h2⟩:=h;⟨es,c,(hx.block b (Gl h1) hn).trans h1,h2⟩
theorem SJ (z:Value) (o:Option Value):lkV true z o=.tuple #[o.getD z,.bool o.isSome]:=by cases o<;>rfl
theorem R.looko {x y:Operand} {ok:Bool} {z:Value} (q:κ) (hK:L2 P k enc) (hM:Mp w0 enc b m) (h:Rj P n ds d ops K pl (i::pend) (Mem C w0 A) ((t,lkV ok z (AT q m))::l)) (hn:¬C b:=by exact fun h=>h) (ho:AQ ops.toList i=F ⟨F t,.lookup tt x y ok,ty,ps,af,gd⟩:=by rfl)
  (hx:ev l x=F (.map (F b)):=by rfl) (hy:ev l y=F (enc q):=by rfl) (ht:P.underlying tt=F (.map k e):=by kernel_rfl) (hz:∀ w,(zeroValue e).run P w=.ok z w:=by intro w;simp;(try rfl);first | done | fail) (hg:D0 ops.toList l gd=F true:=by rfl):Rj P n ds d ops K (i::pl) pend (Mem C w0 A) l:=
 R.takeS ho hg rfl (fun a w ha hw=>by
  obtain⟨es,c,h1,h2⟩:=hM.ext hw.1 hn;have:=T5 hK ht (hz w) ok q h1 h2;simp[execOp,ha.ev hx,ha.ev hy,Sem.run_bind,this,pure,Sem.run]) h
theorem R.lenm {x:Operand} {t1:TypeId} (h:Rj P n ds d ops K pl (i::pend) (Mem C w0 A) ((t,I J m.length)::l)) (ho:AQ ops.toList i=F ⟨F t,.call {callee:=.builtin .len,args:=#[x],argTypes:=#[t1]},ty,ps,af,gd⟩:=by rfl)
  (hx:ev l x=F (.map (F b)):=by rfl) (hn:m.length<=1000000000:=by omega) (hb:MZ enc b m∈A:=by(repeat (first | exact List.Mem.head _ | apply List.Mem.tail));first | done | fail) (ht:P.underlying t1=F (.map k e):=by kernel_rfl) (hg:D0 ops.toList l gd=F true:=by rfl):Rj P n ds d ops K (i::pl) pend (Mem C w0 A) l:=
 R.takeS ho hg rfl (fun a w ha hw=>by
  obtain⟨Fz,⟨_,es,c,h1,h2⟩,_⟩:=hw.has hb;have hlen:es.size=m.length:=by have:=congrArg List.length h2;simpa using this
  have hg:(getObj b).run P w=.ok (.map es c) w:=by simp[getObj,Sem.run,h1]
  simp[execOp,resolve,invoke,builtin,Builtin.len_,ha.ev hx,Sem.run_bind,run_underlying ht,hg,hlen,goInt,pure,Sem.run]) h
theorem R.mput {x y z:Operand} {v:Value} (q:κ) (hK:L2 P k enc) (h:Rj P n ds d ops K pl pend' (Mem C w0 A') l) (ho:AQ ops.toList i=F ⟨O,.mapUpdate tt x y z,ty,ps,af,gd⟩:=by rfl)
  (hx:ev l x=F (.map (F b)):=by rfl) (hy:ev l y=F (enc q):=by rfl) (hv:ev l z=F v:=by rfl) (hr:E5 (MZ enc b m) (MZ enc b (mput q v m)) A A':=by(repeat (first | exact E5.hd | apply E5.tl));first | done | fail) (ht:P.underlying tt=F (.map k e):=by kernel_rfl)
  (hp:Wq (ι:=Unit) d ops i pend pend' (fun _=>Mem C w0 A') (Mem C w0 A):=by first | exact .inl ⟨rfl,rfl⟩ | exact .inr (.inl ⟨rfl,rfl⟩)) (hg:D0 ops.toList l gd=F true:=by rfl):Rj P n ds d ops K (i::pl) pend (Mem C w0 A) l:=
 R.eff (ι:=Unit) (Si:=fun _=>Mem C w0 A') (li:=fun _=>l) ho hg rfl (fun a w K' ha hd hw hk=>by
  obtain⟨G,⟨g1,es,c,g2,gm⟩,g3,g4⟩:=hw.rep hr;obtain⟨es',c',k1,k2⟩:=Ae3 (w:=w) hK ht q v g2 gm;have hlt:b<w.heap.size:=(Gl g2)
  unfold FI;have:(execOp a.eval ⟨O,.mapUpdate tt x y z,ty,ps,af,gd⟩).run P w=.ok .skip (w.putObj b (.map es' c')):=by
   simp[execOp,ha.ev hx,ha.ev hy,ha.ev hv,Sem.run_bind,k1,pure,Sem.run]
  rw[this];exact hk () undef _ (g4 G _ ⟨g1,es',c',World.putObj_heap_same hlt,k2⟩ (B4.put g1) (fun k hk=>⟨by simpa using (g3 k hk).1,.inl hk⟩)) ha) hp (fun _=>h)
theorem R.mkm {op:Op} {vs:List Value} (enc:κ->Value) (h:∀ b,w0.heap.size<=b->Rj P n ds d ops K pl pend (Mem C w0 (MZ enc b []::A)) ((t,.map (F b))::l)) (ho:AQ ops.toList i=F ⟨F t,op,ty,ps,af,gd⟩:=by rfl) (hg:D0 ops.toList l gd=F true:=by rfl)
  (hs:evs l op.operands.toList=F vs:=by rfl) (hq:quiet P op=false:=by first | rfl | kernel_rfl)
  (hv:∀ ρ w,GD ρ op.operands.toList vs->(execOp ρ ⟨F t,op,ty,ps,af,gd⟩).run P w=.ok (.value (.map (F w.heap.size))) (w.alloc (.map #[] 0)):=by intro ρ w h;simp only[Op.operands,GD,Array.toList_append,List.toList_toArray,List.map_cons,List.map_nil,List.nil_append,List.cons_append] at h;simp[go_sem,Instr.makeMap,newObj,Sem.run_bind,h];(try rfl);first | done | fail):Rj P n ds d ops K (i::pl) pend (Mem C w0 A) l:=
 R.eff (ι:={b:Nat // w0.heap.size<=b}) (Si:=fun b=>Mem C w0 (MZ enc b.1 []::A)) (li:=fun b=>(t,.map (F b.1))::l) ho hg hq
  (fun a w K' ha hd hw hk=>by
   unfold FI;rw[hv a.eval w (ha.evs _ _ hs).1];exact hk ⟨w.heap.size,hw.1.size⟩ _ _ (hw.push (Fz:=fun b=>b=w.heap.size) ((Bq _ w).alloc Nr _) ⟨rfl,#[],0,Wn w _,rfl⟩ (fun b hb=>by subst hb;exact⟨Nat.le_refl _,by simp⟩)) (hd _)) (.inr (.inr ⟨rfl,fun x w h=>h.sub (List.sublist_cons_self ..)⟩)) (fun x=>h x.1 x.2)
end
end
section
open Go
structure Nd where
 kind:Int
 x:Sc
 keys:List Sc
 kids:List Int
structure St where
 nodes:List Nd
 names:List (ByteArray×Int)
def St.kid (s:St) (at_:Nat) (i:Int):St:=⟨s.nodes.modify at_ fun n=>{n with kids:=n.kids++[i]},s.names⟩
def St.node (s:St) (k:Int) (nm:ByteArray) (x:Sc) (ks:List Sc):St:=⟨s.nodes++[⟨k,x,ks,[]⟩],if nm.toList.isEmpty then s.names else mput nm (s.nodes.length:Int) s.names⟩
def Nw (rt:Sc->Bool) (x:Sc) (kl tl:Nat):Bool:=rt x&&decide (kl=0)&&decide (tl=0)
def O3 (x:Sc) (kl:Nat):Bool:=decide (x=AJ)&&decide (kl=0)
def Uz (rt:Sc->Bool) (x:Sc) (ks:List Sc) (tl:Nat):Bool:=decide (x=AJ)&&decide (ks.length=tl)&&ks.all rt
def Uw (nm:ByteArray) (x:Sc) (kl tl:Nat):Bool:=decide (x=AJ)&&decide (kl=0)&&decide (tl=0)&& !nm.toList.isEmpty
def Fv (rt:Sc->Bool) (k:Int) (nm:ByteArray) (x:Sc) (ks:List Sc) (tl:Nat):Bool:=
 if k=0 then Nw rt x ks.length tl else if k=1 then O3 x ks.length else if k=2 then Uz rt x ks tl else if k=3 then Uw nm x ks.length tl else false
def BD (rt:Sc->Bool) (nb:Bool) (k:Int) (nm:ByteArray) (x:Sc) (ks:List Sc) (tl:Nat):Bool:=Fv rt k nm x ks tl&&(nm.toList.isEmpty||nb)
def F7 (sb dup:Bool) (k deep:Int) (known:Bool) (ln:Nat):Int:=if 24<deep then 73 else if sb=false then 93 else if dup=true then 101 else if k=3/\known=false then 100 else if k≠3/\ln=200 then 71 else 0
def BY (rt:Sc->Bool) (nb:ByteArray->Bool) (t:Tr) (deep:Int) (s:St):Int:=match t with
 | .mk k nm x ks ts=>F7 (BD rt (nb nm) k nm x ks ts.length) (!decide ks.Nodup) k deep (AT nm s.names).isSome s.nodes.length
mutual
def BO (chk:Tr->Int->St->Int) (deep:Int) (t:Tr) (s:St):St×Int×Int:=match t with
 | .mk k nm x ks ts=>
  if chk (.mk k nm x ks ts) deep s=0 then
   if k=3 then (s,(AT nm s.names).getD 0,0) else
    let r:=D3 chk deep s.nodes.length ts (s.node k nm x ks)
    if r.2=0 then (r.1,(s.nodes.length:Int),0) else (r.1,0,r.2)
  else (s,0,chk (.mk k nm x ks ts) deep s)
def D3 (chk:Tr->Int->St->Int) (deep:Int) (at_:Nat) (ts:List Tr) (s:St):St×Int:=match ts with
 | []=>(s,0)
 | t::r=>
  let a:=BO chk (deep+1) t s
  if a.2.2=0 then D3 chk deep at_ r (a.1.kid at_ a.2.1) else (a.1.kid at_ a.2.1,a.2.2)
end
end
section
def Fl (x:Sc):List Value:=[I J x.kind,I J x.num,Q x.str]
def GZ (w:Y) (S:Nat->Prop) (A:Option Addr) (ks:List Sc):Prop:=∀ j x,ks[j]? =F x->∃ b o,A=F ⟨b,o,O⟩/\S b/\Cs w b (o+j*3) (Fl x)
def D7 (w:Y) (S:Nat->Prop):Tr->List Value->Prop
 | .mk k nm x ks ts,vs=>∃ (KA:Option Addr) (kc:Nat) (A:Option Addr) (c:Nat),vs=[I J k,Q nm,I J x.kind,I J x.num,Q x.str,Z KA ks.length kc,Z A ts.length c]/\GZ w S KA ks/\TsV w S A 0 ts
where TsV (w:Y) (S:Nat->Prop) (A:Option Addr):Nat->List Tr->Prop
 | _,[]=>True
 | i,t::r=>(∃ (b o:Nat) (us:List Value),A=F ⟨b,o,O⟩/\S b/\Cs w b (o+i*7) us/\D7 w S t us)/\TsV w S A (i+1) r
theorem GZ.to {w w':Y} {S S':Nat->Prop} {A:Option Addr} {ks:List Sc} (h:GZ w S A ks) (hc:∀ b o v,S b->w.cell? ⟨b,o,O⟩=F v->w'.cell? ⟨b,o,O⟩=F v/\S' b):GZ w' S' A ks:=fun j x hj=>by
 obtain⟨b,o,e,hb,hcs⟩:=h j x hj;exact⟨b,o,e,(hc b _ _ hb (hcs 0 _ rfl)).2,fun i v hv=>(hc b _ _ hb (hcs i v hv)).1⟩
mutual
theorem D7.to {w w':Y} {S S':Nat->Prop} (hc:∀ b o v,S b->w.cell? ⟨b,o,O⟩=F v->w'.cell? ⟨b,o,O⟩=F v/\S' b):∀ (t:Tr) (vs:List Value),D7 w S t vs->D7 w' S' t vs
 | .mk k nm x ks ts,vs,h=>by
  unfold D7 at h |-;obtain⟨KA,kc,A,c,e,h1,h2⟩:=h;exact⟨KA,kc,A,c,e,h1.to hc,TsV.to hc A 0 ts h2⟩
theorem TsV.to {w w':Y} {S S':Nat->Prop} (hc:∀ b o v,S b->w.cell? ⟨b,o,O⟩=F v->w'.cell? ⟨b,o,O⟩=F v/\S' b) (A:Option Addr):∀ (i:Nat) (ts:List Tr),D7.TsV w S A i ts->D7.TsV w' S' A i ts
 | i,[],h=>by unfold D7.TsV;trivial
 | i,t::r,h=>by
  unfold D7.TsV at h |-;obtain⟨⟨b,o,us,e,hb,hcs,ht⟩,hr⟩:=h;have hus:∃ v,us[0]? =F v:=by
   cases t with
   | mk=>unfold D7 at ht;obtain⟨KA,kc,A',c,rfl,_⟩:=ht;exact⟨_,rfl⟩
  obtain⟨v,hv⟩:=hus;exact⟨⟨b,o,us,e,(hc b _ _ hb (hcs 0 v hv)).2,fun i v hv=>(hc b _ _ hb (hcs i v hv)).1,D7.to hc t us ht⟩,TsV.to hc A (i+1) r hr⟩
end
theorem TsV.get {w:Y} {S:Nat->Prop} {A:Option Addr}:∀ {ts:List Tr} {i k:Nat} {t:Tr},D7.TsV w S A i ts->ts[k]? =F t->∃ (b o:Nat) (us:List Value),A=F ⟨b,o,O⟩/\S b/\Cs w b (o+(i+k)*7) us/\D7 w S t us
 | t::r,i,0,t',h,hk=>by unfold D7.TsV at h;cases hk;exact h.1
 | t::r,i,k+1,t',h,hk=>by
  unfold D7.TsV at h;have:=TsV.get h.2 (k:=k) hk
  rwa [show i+1+k=i+(k+1) by omega] at this
theorem HO {w:Y} {b o:Nat} {v:Value} (h:w.cell? ⟨b,o,O⟩=F v):b<w.heap.size:=by
 unfold World.cell? at h;cases hk:w.heap[b]? with
 | none=>simp[hk] at h
 | some o=>exact(Gl hk)
theorem B4.keep {C S:Nat->Prop} {w0 w:Y} (h:B4 C w0 w) (hS:∀ b,b<w0.heap.size->S b->¬C b):∀ b o v,S b->w0.cell? ⟨b,o,O⟩=F v->w.cell? ⟨b,o,O⟩=F v/\S b:=fun b o v hb hv=>⟨h.cell hv (hS b (HO hv) hb),hb⟩
end
section
section
variable {C:Nat->Prop} {w0 w:Y} {A B:List Aw} {β:Type} {f:β->Aw}
theorem Mem.ex (h:Mem C w0 (JB f::A) w):∃ x,Mem C w0 (f x::A) w:=let ⟨Fz,⟨x,hx⟩,h2,h3⟩:=h.2;⟨x,h.1,Fz,hx,h2,h3⟩
theorem Mem.toEx (x:β) (h:Mem C w0 (f x::A) w):Mem C w0 (JB f::A) w:=let ⟨Fz,hx,h2,h3⟩:=h.2;⟨h.1,Fz,⟨x,hx⟩,h2,h3⟩
theorem Mem.star (h:Mem C w0 (Go.Proofs.YtdpppepmkeinaaaGreatDoor.star B::A) w):Mem C w0 (B++A) w:=let ⟨Fz,h1,h2,h3⟩:=h.2;⟨h.1,Cq.join h1 h2 h3⟩
theorem Mem.toStar (h:Mem C w0 (B++A) w):Mem C w0 (Go.Proofs.YtdpppepmkeinaaaGreatDoor.star B::A) w:=⟨h.1,Cq.split h.2⟩
end
section
variable {P:Program} {Fz:Fence} {Qr:Exit->Act->Y->Prop} {n:Nat} {ds:List Deferred} {k:List KL} {l:Env} {C:Nat->Prop} {w0:Y} {A B:List Aw} {β:Type} {f:β->Aw}
theorem V.ex (h:∀ x,V P Fz Qr n ds k (Mem C w0 (f x::A)) l):V P Fz Qr n ds k (Mem C w0 (JB f::A)) l:=fun a w ha hw=>let ⟨x,hx⟩:=hw.ex;h x a w ha hx
theorem V.star (h:V P Fz Qr n ds k (Mem C w0 (B++A)) l):V P Fz Qr n ds k (Mem C w0 (Go.Proofs.YtdpppepmkeinaaaGreatDoor.star B::A)) l:=fun a w ha hw=>h a w ha hw.star
end
end
end Go.Proofs.YtdpppepmkeinaaaGreatDoor
