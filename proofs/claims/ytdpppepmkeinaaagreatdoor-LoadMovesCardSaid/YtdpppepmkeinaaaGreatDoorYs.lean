/- What is proved: a part of the walk of the program and of its plain laws; no condition beside those that each theorem names. -/
import Derived.Test.YtdpppepmkeinaaaGreatDoorYr
import Derived.Test.YtdpppepmkeinaaaGreatDoorYa
import Derived.WalkKit
import Derived.IntWalk
import Derived.RangeFuncLeaves
import Derived.Scope
namespace Go.Proofs.YtdpppepmkeinaaaGreatDoor
open Go Go.RowKit Go.Lib
open Go.Value renaming int->I,string->Q,slice->Z
open Go.IntKind renaming i64->J
open Option renaming none->O,some->F
open _root_.Go renaming World->Y
set_option linter.unusedSimpArgs false
set_option linter.unusedVariables false
set_option linter.unusedSectionVars false
section
structure Aw where
 is:(Nat->Prop)->Y->Prop
 loc:∀ Fz w w',(∀ b,Fz b->w'.heap[b]? =w.heap[b]?)->is Fz w->is Fz w'
def blk (b:Nat) (cs:List Value) (ty:TypeId):Aw:=⟨fun Fz w=>Fz b/\w.heap[b]? =F (.cells cs.toArray ty),fun Fz w w' h x=>⟨x.1,(h b x.1).trans x.2⟩⟩
def Cq:List Aw->Y->(Nat->Prop)->Prop
 | [],_,_=>True
 | A::r,w,G=>∃ Fz:Nat->Prop,A.is Fz w/\(∀ b,Fz b->G b)/\Cq r w (fun b=>G b/\¬Fz b)
theorem Cq.mono:∀ {A:List Aw} {w w':Y} {G G':Nat->Prop},Cq A w G->(∀ b,G b->G' b)->(∀ b,G b->w'.heap[b]? =w.heap[b]?)->Cq A w' G'
 | [],_,_,_,_,_,_,_=>trivial
 | X::r,w,w',G,G',⟨Fz,h1,h2,h3⟩,hg,hw=>⟨Fz,X.loc Fz w w' (fun b hb=>hw b (h2 b hb)) h1,fun b hb=>hg b (h2 b hb),Cq.mono h3 (fun b hb=>⟨hg b hb.1,hb.2⟩) (fun b hb=>hw b hb.1)⟩
inductive E5 (X X':Aw):List Aw->List Aw->Prop
 | hd {r:List Aw}:E5 X X' (X::r) (X'::r)
 | tl {Yz:Aw} {r r':List Aw} (h:E5 X X' r r'):E5 X X' (Yz::r) (Yz::r')
theorem E5.go {X X':Aw} {A A':List Aw} (h:E5 X X' A A'):∀ {w:Y} {G:Nat->Prop},Cq A w G->∃ Fz:Nat->Prop,X.is Fz w/\(∀ b,Fz b->G b)∧
  ∀ (F':Nat->Prop) (w':Y) (G':Nat->Prop),X'.is F' w'->(∀ b,G b->¬Fz b->w'.heap[b]? =w.heap[b]?)->(∀ b,G b->G' b)->(∀ b,F' b->G' b/\(Fz b\/¬G b))->Cq A' w' G':=by
 induction h with
 | hd=>
  rintro w G ⟨Fz,h1,h2,h3⟩;refine⟨Fz,h1,h2,fun F' w' G' k1 k2 k3 k4=>⟨F',k1,fun b hb=>(k4 b hb).1,h3.mono (fun b hb=>⟨k3 b hb.1,fun hf=>?_⟩) (fun b hb=>k2 b hb.1 hb.2)⟩⟩;rcases(k4 b hf).2 with h | h
  ·exact hb.2 h
  ·exact h hb.1
 | @tl Yz r r' h ih=>
  rintro w G ⟨Fz,h1,h2,h3⟩;obtain⟨F1,i1,i2,i3⟩:=ih h3;refine⟨F1,i1,fun b hb=>(i2 b hb).1,fun F' w' G' k1 k2 k3 k4=>⟨Fz,Yz.loc Fz w w' (fun b hb=>k2 b (h2 b hb) (fun hf=>(i2 b hf).2 hb)) h1,fun b hb=>k3 b (h2 b hb),i3 F' w' _ k1 (fun b hb hf=>k2 b hb.1 hf) (fun b hb=>⟨k3 b hb.1,hb.2⟩) (fun b hb=>?_)⟩⟩;obtain⟨k5,k6⟩:=k4 b hb;rcases k6 with k6 | k6
  ·exact⟨⟨k5,(i2 b k6).2⟩,.inl k6⟩
  ·exact⟨⟨k5,fun hf=>k6 (h2 b hf)⟩,.inr fun hg=>k6 hg.1⟩
structure B4 (C:Nat->Prop) (w0 w:Y):Prop where
 os:w.os=w0.os
 tape:w.tape=w0.tape
 output:w.output=w0.output
 size:w0.heap.size<=w.heap.size
 block:∀ k,k<w0.heap.size->¬C k->w.heap[k]? =w0.heap[k]?
def A5 (_:Nat):Prop:=False
theorem B4.refl (C:Nat->Prop) (w:Y):B4 C w w:=⟨rfl,rfl,rfl,Nat.le_refl _,fun _ _ _=>rfl⟩
theorem B4.trans {C C':Nat->Prop} {a b c:Y} (h:B4 C a b) (k:B4 C' b c) (hc:∀ x,x<a.heap.size->C' x->C x):B4 C a c:=
 ⟨k.os.trans h.os,k.tape.trans h.tape,k.output.trans h.output,Nat.le_trans h.size k.size,fun x hx hn=>(k.block x (Nat.lt_of_lt_of_le hx h.size) (fun e=>hn (hc x hx e))).trans (h.block x hx hn)⟩
theorem B4.sub {C C':Nat->Prop} {a b:Y} (h:B4 C a b) (hc:∀ x,x<a.heap.size->C x->C' x):B4 C' a b:=⟨h.os,h.tape,h.output,h.size,fun k hk hn=>h.block k hk (fun e=>hn (hc k hk e))⟩
theorem B4.of_below {C:Nat->Prop} {w w':Y} (h:Below w.heap.size w w'):B4 C w w':=⟨h.os,h.tape,h.output,h.size,fun k hk _=>h.block k hk⟩
theorem B4.below {w w':Y} (h:B4 A5 w w'):Below w.heap.size w w':=⟨h.os,h.tape,h.output,h.size,fun k hk=>h.block k hk (fun e=>e)⟩
def Mem (C:Nat->Prop) (w0:Y) (A:List Aw) (w:Y):Prop:=B4 C w0 w/\Cq A w (fun b=>b<w.heap.size/\(w0.heap.size<=b\/C b))
section
variable {C:Nat->Prop} {w0 w w':Y} {A A':List Aw} {X X':Aw}
theorem Mem.start (w:Y):Mem C w [] w:=⟨B4.refl _ _,trivial⟩
instance:Dr (Mem C w0 A):=⟨fun w h=>⟨⟨h.1.os,h.1.tape,h.1.output,h.1.size,h.1.block⟩,h.2.mono (fun b hb=>hb) (fun b hb=>rfl)⟩⟩
theorem Mem.below (h:Mem C w0 A w) (hb:Below w.heap.size w w'):Mem C w0 A w':=
 ⟨h.1.trans (C':=C) (B4.of_below hb) (fun _ _ e=>e),h.2.mono (fun b hg=>⟨Nat.lt_of_lt_of_le hg.1 hb.size,hg.2⟩) (fun b hg=>hb.block b hg.1)⟩
theorem Mem.push {Fz:Nat->Prop} (h:Mem C w0 A w) (hb:Below w.heap.size w w') (hx:X.is Fz w') (hF:∀ b,Fz b->w.heap.size<=b/\b<w'.heap.size):Mem C w0 (X::A) w':=
 ⟨(h.below hb).1,Fz,hx,fun b hf=>⟨(hF b hf).2,.inl (Nat.le_trans h.1.size (hF b hf).1)⟩,h.2.mono (fun b hg=>⟨⟨Nat.lt_of_lt_of_le hg.1 hb.size,hg.2⟩,fun hf=>by have:=(hF b hf).1;omega⟩) (fun b hg=>hb.block b hg.1)⟩
theorem Mem.alloc (h:Mem C w0 A w) (cs:List Value) (ty:TypeId):Mem C w0 (blk w.heap.size cs ty::A) (w.alloc (.cells cs.toArray ty)):=
 h.push (Fz:=fun b=>b=w.heap.size) ((Bq _ w).alloc Nr _) ⟨rfl,Wn w _⟩ (fun b hb=>by subst hb;exact⟨Nat.le_refl _,by simp⟩)
theorem Mem.rep (h:Mem C w0 A w) (hr:E5 X X' A A'):∃ Fz:Nat->Prop,X.is Fz w/\(∀ b,Fz b->b<w.heap.size/\(w0.heap.size<=b\/C b))∧
  ∀ (F':Nat->Prop) (w':Y),X'.is F' w'->B4 Fz w w'->(∀ b,F' b->b<w'.heap.size/\(Fz b\/w.heap.size<=b))->Mem C w0 A' w':=by
 obtain⟨Fz,h1,h2,h3⟩:=hr.go h.2;refine⟨Fz,h1,h2,fun F' w' k1 k2 k3=>⟨h.1.trans k2 (fun x hx hf=>?_),h3 F' w' _ k1 (fun b hb hf=>k2.block b hb.1 hf) (fun b hb=>⟨Nat.lt_of_lt_of_le hb.1 k2.size,hb.2⟩) (fun b hb=>?_)⟩⟩
 ·rcases(h2 x hf).2 with h | h
  ·omega
  ·exact h
 ·obtain⟨k4,k5⟩:=k3 b hb;rcases k5 with k5 | k5
  ·exact⟨⟨k4,(h2 b k5).2⟩,.inl k5⟩
  ·exact⟨⟨k4,.inl (Nat.le_trans h.1.size k5)⟩,.inr fun hg=>by have:=hg.1;omega⟩
theorem E5.same (h:X∈A):E5 X X A A:=by
 induction A with
 | nil=>cases h
 | cons Yz r ih=>
  rcases List.mem_cons.1 h with rfl | h
  ·exact .hd
  ·exact .tl (ih h)
theorem Mem.has (h:Mem C w0 A w) (hx:X∈A):∃ Fz:Nat->Prop,X.is Fz w/\∀ b,Fz b->b<w.heap.size/\(w0.heap.size<=b\/C b):=
 let ⟨Fz,h1,h2,_⟩:=h.rep (E5.same hx);⟨Fz,h1,h2⟩
theorem Mem.blk {b:Nat} {cs:List Value} {ty:TypeId} (h:Mem C w0 A w) (hx:blk b cs ty∈A):w.heap[b]? =F (.cells cs.toArray ty):=let ⟨_,h1,_⟩:=h.has hx;h1.2
theorem Cq.sub:∀ {A A':List Aw},A'.Sublist A->∀ {G:Nat->Prop},Cq A w G->Cq A' w G:=by
 intro A A' h;induction h with
 | slnil=>exact fun h=>h
 | cons Yz _ ih=>rintro G ⟨Fz,_,_,h3⟩;exact ih (h3.mono (fun b hb=>hb.1) (fun _ _=>rfl))
 | cons_cons Yz _ ih=>rintro G ⟨Fz,h1,h2,h3⟩;exact⟨Fz,h1,h2,ih h3⟩
theorem Mem.sub (h:Mem C w0 A w) (hs:A'.Sublist A):Mem C w0 A' w:=⟨h.1,h.2.sub hs⟩
inductive Pk (X:Aw):List Aw->List Aw->Prop
 | hd {r:List Aw}:Pk X (X::r) r
 | tl {Yz:Aw} {r r':List Aw} (h:Pk X r r'):Pk X (Yz::r) (Yz::r')
theorem Cq.pk (h:Pk X A A'):∀ {G:Nat->Prop},Cq A w G->Cq (X::A') w G:=by
 induction h with
 | hd=>exact fun h=>h
 | tl h ih=>
  rintro G ⟨Fz,h1,h2,h3⟩;obtain⟨F',k1,k2,k3⟩:=ih h3;exact⟨F',k1,fun b hb=>(k2 b hb).1,Fz,h1,fun b hb=>⟨h2 b hb,fun e=>(k2 b e).2 hb⟩,k3.mono (fun b hb=>⟨⟨hb.1.1,hb.2⟩,hb.1.2⟩) (fun _ _=>rfl)⟩
theorem Mem.pk (h:Mem C w0 A w) (hp:Pk X A A'):Mem C w0 (X::A') w:=⟨h.1,h.2.pk hp⟩
inductive PK:List Aw->List Aw->Prop
 | nil {A:List Aw}:PK [] A
 | cons {X:Aw} {B A R:List Aw} (h:Pk X A R) (hs:PK B R):PK (X::B) A
theorem Cq.sel {B:List Aw} (h:PK B A):∀ {G:Nat->Prop},Cq A w G->Cq B w G:=by
 induction h with
 | nil=>exact fun _=>trivial
 | cons h _ ih=>
  intro G hs;obtain⟨Fz,h1,h2,h3⟩:=hs.pk h;exact⟨Fz,h1,h2,ih h3⟩
theorem Mem.sel {B:List Aw} (h:Mem C w0 A w) (hs:PK B A:=by repeat (first | exact PK.nil | (apply PK.cons;(repeat (first | exact Pk.hd | apply Pk.tl))))):Mem C w0 B w:=⟨h.1,h.2.sel hs⟩
def Cs (w:Y) (b o:Nat) (vs:List Value):Prop:=∀ j v,vs[j]? =F v->w.cell? ⟨b,o+j,O⟩=F v
theorem B4.cell (h:B4 C w0 w) {b o:Nat} {v:Value} (hc:w0.cell? ⟨b,o,O⟩=F v) (hn:¬C b):w.cell? ⟨b,o,O⟩=F v:=by
 have hb:b<w0.heap.size:=by
  unfold World.cell? at hc;cases hk:w0.heap[b]? with
  | none=>simp[hk] at hc
  | some o=>exact(Gl hk)
 exact(World.cell?_of_block (w:=w0) (a:=⟨b,o,O⟩) (h.block b hb hn)).trans hc
theorem B4.cs (h:B4 C w0 w) {b o:Nat} {vs:List Value} (hc:Cs w0 b o vs) (hn:¬C b):Cs w b o vs:=fun j v hj=>h.cell (hc j v hj) hn
theorem Cs.of_blk {b:Nat} {cs:List Value} {ty:TypeId} (h:w.heap[b]? =F (.cells cs.toArray ty)):Cs w b 0 cs:=fun j v hj=>by
 simp[World.cell?,h,hj]
theorem Cs.drop {b o:Nat} {cs:List Value} (h:Cs w b o cs) (m:Nat):Cs w b (o+m) (cs.drop m):=fun j v hj=>by
 rw[List.getElem?_drop] at hj;rw[Nat.add_assoc];exact h _ _ hj
theorem Cs.take {b o:Nat} {cs:List Value} (h:Cs w b o cs) (m:Nat):Cs w b o (cs.take m):=fun j v hj=>by
 rw[List.getElem?_take] at hj;split at hj
 ·exact h _ _ hj
 ·cases hj
end
section
variable {P:Program} {t:TypeId} {b o:Nat} {w:Y}
theorem WJ {v:Value} (ht:(isAgg t).run P w=.ok false w) (hc:w.cell? ⟨b,o,O⟩=F v):(Instr.loadAt t (.pointer (F ⟨b,o,O⟩))).run P w=.ok v w:=by
 simp[Instr.loadAt,Instr.sureAddr,loadVar,Sem.run_bind,ht,load,Sem.run,hc,pure]
theorem La:∀ (vs:List Value) (i:Nat) (acc:Array Value),Cs w b (o+i) vs->(loadCellsFrom ⟨b,o,O⟩ i vs.length acc).run P w=.ok (acc++vs.toArray) w
 | [],i,acc,_=>by simp[loadCellsFrom,Sem.run,pure]
 | v::vs,i,acc,h=>by
  have h0:w.cell? ((⟨b,o,O⟩:Addr).add i)=F v:=by
   have:=h 0 v rfl;unfold Addr.add;split
   ·rename_i e;subst e;exact this
   ·exact this
  have h1:=La vs (i+1) (acc.push v) (by have:=h.drop 1;rw[List.drop_succ_cons,List.drop_zero,Nat.add_assoc] at this;exact this);rw[List.length_cons];unfold loadCellsFrom;simp only[load,Sem.run_bind]
  simp only[Sem.run,h0,Result.andThen_ok]
  rw[h1];congr 1;apply Array.ext';simp
theorem WU {vs:List Value} (ht:(isAgg t).run P w=.ok true w) (hs:(sizeOf t).run P w=.ok vs.length w) (hc:Cs w b o vs):(Instr.loadAt t (.pointer (F ⟨b,o,O⟩))).run P w=.ok (.agg vs.toArray) w:=by
 have:=La (P:=P) vs 0 #[] hc;simp[Instr.loadAt,Instr.sureAddr,loadVar,Sem.run_bind,ht,hs,loadCells,this,Sem.run,pure]
end
end
section
section
variable {P:Program} {Fz:Fence} {Qr:Exit->Act->Y->Prop} {n:Nat} {ds:List Deferred} {d:Bool} {ops:Array Oper} {K:Act->Y->Prop} {i:Nat} {pl pend:List Nat} {S S':Y->Prop} {l l':Env}
 {t:Nat} {ty:TypeId} {ps:String} {af:Array Edge} {gd:Option (Nat×Bool)} {C:Nat->Prop} {w0:Y} {A A':List Aw}
theorem R.p {op:Op} {v:Value} {vs:List Value} (ho:AQ ops.toList i=F ⟨F t,op,ty,ps,af,gd⟩:=by rfl) (hg:D0 ops.toList l gd=F true:=by rfl) (hs:evs l op.operands.toList=F vs:=by rfl) (h0:Oh op=true:=by rfl) (hq:quiet P op=true:=by first | rfl | kernel_rfl) (hv:∀ ρ w,GD ρ op.operands.toList vs->(execOp ρ ⟨F t,op,ty,ps,af,gd⟩).run P w=.ok (.value v) w:=by intro ρ w h;simp only[Op.operands,Call.operands,GD,Array.toList_append,List.toList_toArray,List.map_cons,List.map_nil,List.nil_append,List.cons_append] at h;simp[go_sem,h];(try rfl);first | done | fail):(Rj P n ds d ops K pl pend S ((t,v)::l))->Rj P n ds d ops K (i::pl) pend S l:=fun h=>
 R.takeP ho hg hq (by rw[if_pos rfl];exact fun a w ha=>hv a.eval w (ha.evs _ _ hs).1) h
theorem R.u {op:Op} (ho:AQ ops.toList i=F ⟨F t,op,ty,ps,af,gd⟩:=by rfl) (hg:D0 ops.toList l gd=F false:=by rfl) (h0:Oh op=true:=by rfl) (hq:quiet P op=true:=by first | rfl | kernel_rfl):(Rj P n ds d ops K pl pend S ((t,undef)::l))->Rj P n ds d ops K (i::pl) pend S l:=fun h=>
 R.takeP ho hg hq (by rw[if_neg (by simp)]) h
theorem R.uc {op:Op} (ho:AQ ops.toList i=F ⟨F t,op,ty,ps,af,gd⟩:=by rfl) (hg:D0 ops.toList l gd=F false:=by rfl) (hq:quiet P op=false:=by rfl):(Rj P n ds d ops K pl pend S ((t,undef)::l))->Rj P n ds d ops K (i::pl) pend S l:=fun h=>
 R.ux ho hg hq h
theorem R.add {x y:Operand} {tt t2:TypeId} {a b:Int} (ho:AQ ops.toList i=F ⟨F t,.binOp .add tt x y t2,ty,ps,af,gd⟩:=by rfl) (hx:ev l x=F (I J a):=by rfl) (hy:ev l y=F (I J b):=by rfl) (hr: -9223372036854775808<=a+b/\a+b<=9223372036854775807:=by omega) (hg:D0 ops.toList l gd=F true:=by rfl):(Rj P n ds d ops K pl pend S ((t,I J (a+b))::l))->Rj P n ds d ops K (i::pl) pend S l:=fun h=>
 R.takeP ho hg rfl (by rw[if_pos rfl];intro a w ha;simp[execOp,ha.ev hx,ha.ev hy,eqGuard,binOp,Op.intArith,Sem.run_bind,Sem.run,pure,IntWalk.i64_in _ hr]) h
theorem R.sub {x y:Operand} {tt t2:TypeId} {a b:Int} (ho:AQ ops.toList i=F ⟨F t,.binOp .sub tt x y t2,ty,ps,af,gd⟩:=by rfl) (hx:ev l x=F (I J a):=by rfl) (hy:ev l y=F (I J b):=by rfl) (hr: -9223372036854775808<=a - b/\a - b<=9223372036854775807:=by omega) (hg:D0 ops.toList l gd=F true:=by rfl):(Rj P n ds d ops K pl pend S ((t,I J (a - b))::l))->Rj P n ds d ops K (i::pl) pend S l:=fun h=>
 R.takeP ho hg rfl (by rw[if_pos rfl];intro a w ha;simp[execOp,ha.ev hx,ha.ev hy,eqGuard,binOp,Op.intArith,Sem.run_bind,Sem.run,pure,IntWalk.i64_in _ hr]) h
theorem R.ix {x y:Operand} {tt e:TypeId} {b o len c sz k:Nat} (hk:k<len) (h:Rj P n ds d ops K pl pend S ((t,.pointer (F ⟨b,o+k*sz,O⟩))::l)) (ho:AQ ops.toList i=F ⟨F t,.indexAddr tt x y,ty,ps,af,gd⟩:=by rfl)
  (hx:ev l x=F (Z (F ⟨b,o,O⟩) len c):=by rfl) (hy:ev l y=F (I J k):=by rfl) (hu:∀ w,(underlying tt).run P w=.ok (.slice e) w:=by intro w;simp;(try rfl);first | done | fail) (hs:∀ w,(sizeOf e).run P w=.ok sz w:=by intro w;simp;(try rfl);first | done | fail) (hg:D0 ops.toList l gd=F true:=by rfl):Rj P n ds d ops K (i::pl) pend S l:=
 R.takeP ho hg rfl (by
  rw[if_pos rfl];intro a w ha;have h2:(0:Int)<=(k:Int)/\(k:Int)<(len:Int):=⟨by omega,by omega⟩
  have h3:(⟨b,o,O⟩:Addr).add (k*sz)=⟨b,o+k*sz,O⟩:=by unfold Addr.add;split<;>simp_all
  simp[execOp,ha.ev hx,ha.ev hy,Instr.indexAt,asIntOf,Sem.run_bind,Sem.run,pure,hu,h2,hs,h3]) h
end
section
variable {P:Program} {Fz:Fence} {Qr:Exit->Act->Y->Prop} {n:Nat} {ds:List Deferred} {d:Bool} {ops:Array Oper} {K:Act->Y->Prop} {i:Nat} {pl pend pend':List Nat} {l l':Env}
 {t:Nat} {ty:TypeId} {ps:String} {af:Array Edge} {gd:Option (Nat×Bool)} {C:Nat->Prop} {w0:Y} {A A':List Aw}
theorem run_load {x:Operand} {tt:TypeId} {b o:Nat} {v:Value} {w:Y} {a:Act} (hx:ev l x=F (.pointer (F ⟨b,o,O⟩))) (ha:Kn n ds l a) (hr:(Instr.loadAt tt (.pointer (F ⟨b,o,O⟩))).run P w=.ok v w):(execOp a.eval ⟨F t,.load tt x,ty,ps,af,gd⟩).run P w=.ok (.value v) w:=by
 simp[execOp,ha.ev hx,Sem.run_bind,hr,Sem.run,pure]
def tkE {α:Type}:Nat->List α->Option (List α)
 | 0,_=>F []
 | m+1,x::r=>match tkE m r with
  | some u=>F (x::u)
  | none=>O
 | _+1,[]=>O
theorem Abe {α:Type}:∀ {m:Nat} {l u:List α},tkE m l=F u->l.take m=u/\u.length=m
 | 0,l,u,h=>by cases h;exact⟨List.take_zero ..,rfl⟩
 | m+1,[],u,h=>by cases h
 | m+1,x::r,u,h=>by
  unfold tkE at h;split at h
  ·rename_i v hv;cases h;obtain⟨h1,h2⟩:=Abe hv;exact⟨by rw[List.take_succ_cons,h1],by simp[h2]⟩
  ·cases h
def ldV (g:Bool) (m:Nat) (l:List Value):Option Value:=match g with
 | false=>match l with
  | x::_=>F x
  | []=>O
 | true=>match tkE m l with
  | some u=>F (.agg u.toArray)
  | none=>O
theorem Hr {tt:TypeId} {b o m:Nat} {g:Bool} {v:Value} {cs:List Value} {w:Y} (hc:Cs w b o cs) (hv:ldV g m cs=F v) (ht:(isAgg tt).run P w=.ok g w) (hs:(sizeOf tt).run P w=.ok m w):(Instr.loadAt tt (.pointer (F ⟨b,o,O⟩))).run P w=.ok v w:=by
 unfold ldV at hv;cases g with
 | false=>
  cases cs with
  | nil=>cases hv
  | cons x r=>cases hv;exact WJ ht (hc 0 _ rfl)
 | true=>
  dsimp only at hv;split at hv
  ·rename_i u hu;cases hv
   obtain⟨h1,h2⟩:=Abe hu;have:=hc.take m;rw[h1] at this;exact WU ht (by rw[h2];exact hs) this
  ·cases hv
theorem R.lb {x:Operand} {tt bt:TypeId} {b o m:Nat} {g:Bool} {v:Value} {cs:List Value} (ho:AQ ops.toList i=F ⟨F t,.load tt x,ty,ps,af,gd⟩:=by rfl)
  (hx:ev l x=F (.pointer (F ⟨b,o,O⟩)):=by rfl) (hb:blk b cs bt∈A:=by(repeat (first | exact List.Mem.head _ | apply List.Mem.tail));first | done | fail) (ht:∀ w,(isAgg tt).run P w=.ok g w:=by intro w;simp;(try rfl);first | done | fail) (hs:∀ w,(sizeOf tt).run P w=.ok m w:=by intro w;simp;(try rfl);first | done | fail) (hv:ldV g m (cs.drop o)=F v:=by rfl) (hg:D0 ops.toList l gd=F true:=by rfl):
  Rj P n ds d ops K pl (i::pend) (Mem C w0 A) ((t,v)::l)->Rj P n ds d ops K (i::pl) pend (Mem C w0 A) l:=fun h=>
 R.takeS ho hg rfl (fun a w ha hw=>run_load hx ha (by
  have:=(Cs.of_blk (hw.blk hb)).drop o;rw[Nat.zero_add] at this;exact Hr this hv (ht w) (hs w))) h
theorem R.lo {x:Operand} {tt:TypeId} {b o p m:Nat} {g:Bool} {v:Value} {vs:List Value} (j:Nat) (hc:Cs w0 b o vs) (h:Rj P n ds d ops K pl (i::pend) (Mem C w0 A) ((t,v)::l)) (hn:¬C b:=by exact fun h=>h) (ho:AQ ops.toList i=F ⟨F t,.load tt x,ty,ps,af,gd⟩:=by rfl)
  (hx:ev l x=F (.pointer (F ⟨b,p,O⟩)):=by rfl) (hp:p=o+j:=by rfl) (ht:∀ w,(isAgg tt).run P w=.ok g w:=by intro w;simp;(try rfl);first | done | fail) (hs:∀ w,(sizeOf tt).run P w=.ok m w:=by intro w;simp;(try rfl);first | done | fail) (hv:ldV g m (vs.drop j)=F v:=by rfl) (hg:D0 ops.toList l gd=F true:=by rfl):Rj P n ds d ops K (i::pl) pend (Mem C w0 A) l:=
 R.takeS ho hg rfl (fun a w ha hw=>run_load hx ha (by subst hp;exact Hr ((hw.1.cs hc hn).drop j) hv (ht w) (hs w))) h
theorem Wq.one {S S':Y->Prop} (hs:∀ w,S' w->S w):Wq (ι:=Unit) d ops i pend pend (fun _=>S') S:=.inr (.inr ⟨rfl,fun _ w h=>hs w h⟩)
theorem R.new {op:Op} {vs cs:List Value} {bt:TypeId} (h:∀ b,w0.heap.size<=b->Rj P n ds d ops K pl pend (Mem C w0 (blk b cs bt::A)) ((t,.pointer (F ⟨b,0,O⟩))::l)) (ho:AQ ops.toList i=F ⟨F t,op,ty,ps,af,gd⟩:=by rfl) (hg:D0 ops.toList l gd=F true:=by rfl)
  (hs:evs l op.operands.toList=F vs:=by rfl) (hq:quiet P op=false:=by first | rfl | kernel_rfl)
  (hv:∀ ρ w,GD ρ op.operands.toList vs->(execOp ρ ⟨F t,op,ty,ps,af,gd⟩).run P w=.ok (.value (.pointer (F ⟨w.heap.size,0,O⟩))) (w.alloc (.cells cs.toArray bt)):=by intro ρ w h;simp only[Op.operands,Call.operands,GD,Array.toList_append,List.toList_toArray,List.map_cons,List.map_nil,List.nil_append,List.cons_append] at h;simp[go_sem,h];(try rfl);first | done | fail):Rj P n ds d ops K (i::pl) pend (Mem C w0 A) l:=
 R.eff (ι:={b:Nat // w0.heap.size<=b}) (Si:=fun b=>Mem C w0 (blk b.1 cs bt::A)) (li:=fun b=>(t,.pointer (F ⟨b.1,0,O⟩))::l) ho hg hq
  (fun a w K' ha hd hw hk=>by
   unfold FI;rw[hv a.eval w (ha.evs _ _ hs).1];exact hk ⟨w.heap.size,hw.1.size⟩ _ _ (hw.alloc cs bt) (hd _)) (.inr (.inr ⟨rfl,fun x w h=>h.sub (List.sublist_cons_self ..)⟩)) (fun x=>h x.1 x.2)
theorem FQ {f:FuncId} {fn:Operand} {fs cs:Array Value} {args:List Operand} {ts:Array TypeId} {vs aq:List Value} {dst:Option Nat} {w:Y} {a:Act} (ha:Kn n ds l a) (hf:ev l fn=F (.func (.func f) fs cs)) (hs:evs l args=F vs) (hc:∀ args w,(callFunc f args).run P w=.ok (.enter f args) w) (he:fs.toList++(vs++cs.toList)=aq):
  (execOp a.eval ⟨dst,.call {callee:=.value fn,args:=args.toArray,argTypes:=ts},ty,ps,af,gd⟩).run P w=.ok (.enter f aq.toArray) w:=by
 have h0:fs++vs.toArray++cs=aq.toArray:=by rw[<- he];apply Array.ext';simp
 have h1:(args.toArray).map a.eval=vs.toArray:=by rw[List.map_toArray,(ha.evs _ _ hs).2]
 simp[execOp,resolve,Deferred.ofValue,invoke,h1,ha.ev hf,Sem.run_bind,Sem.run,pure,hc];simpa using h0
theorem R.cx {ι:Type} {v:ι->Value} {A':ι->List Aw} {f:FuncId} {fn:Operand} {fs cs:Array Value} {args:List Operand} {ts:Array TypeId} {vs aq:List Value}
  (hc:∀ w,Mem C w0 A w->Calls P f aq.toArray w fun e w'=>∃ x,e=.returned (v x)/\Mem C w0 (A' x) w') (h:∀ x,Rj P n ds d ops K pl pend' (Mem C w0 (A' x)) ((t,v x)::l))
  (ho:AQ ops.toList i=F ⟨F t,.call {callee:=.value fn,args:=args.toArray,argTypes:=ts},ty,ps,af,gd⟩:=by rfl) (hf:ev l fn=F (.func (.func f) fs cs):=by rfl) (hs:evs l args=F vs:=by rfl) (he:fs.toList++(vs++cs.toList)=aq:=by rfl) (hr:∀ args w,(callFunc f args).run P w=.ok (.enter f args) w:=by intro args w;simp;first | done | fail)
  (hp:Wq d ops i pend pend' (fun x=>Mem C w0 (A' x)) (Mem C w0 A):=by first | exact .inl ⟨rfl,rfl⟩ | exact .inr (.inl ⟨rfl,rfl⟩) | exact .inr (.inr ⟨rfl,fun _ _ h=>h⟩) | exact .inr (.inr ⟨rfl,fun _ _ h=>h.sub (List.sublist_cons_self ..)⟩)) (hg:D0 ops.toList l gd=F true:=by rfl):Rj P n ds d ops K (i::pl) pend (Mem C w0 A) l:=
 R.eff (Si:=fun x=>Mem C w0 (A' x)) (li:=fun x=>(t,v x)::l) ho hg rfl (fun a w K' ha hd hw hk=>by
  unfold FI;rw[FQ ha hf hs hr he];exact(hc w hw).mono (by rintro e w' ⟨x,rfl,hm⟩;exact⟨_,rfl,hk x _ _ hm (hd _)⟩)) hp h
theorem R.c {v:Value} {f:FuncId} {fn:Operand} {fs cs:Array Value} {args:List Operand} {ts:Array TypeId} {vs aq:List Value}
  (hc:∀ w,Mem C w0 A w->Calls P f aq.toArray w fun e w'=>e=.returned v/\Below w.heap.size w w') (h:Rj P n ds d ops K pl pend (Mem C w0 A) ((t,v)::l))
  (ho:AQ ops.toList i=F ⟨F t,.call {callee:=.value fn,args:=args.toArray,argTypes:=ts},ty,ps,af,gd⟩:=by rfl) (hf:ev l fn=F (.func (.func f) fs cs):=by rfl) (hs:evs l args=F vs:=by rfl) (he:fs.toList++(vs++cs.toList)=aq:=by rfl) (hr:∀ args w,(callFunc f args).run P w=.ok (.enter f args) w:=by intro args w;simp;first | done | fail)
  (hg:D0 ops.toList l gd=F true:=by rfl):Rj P n ds d ops K (i::pl) pend (Mem C w0 A) l:=
 R.cx (ι:=Unit) (v:=fun _=>v) (A':=fun _=>A) (fun w hw=>(hc w hw).mono (by rintro e w' ⟨rfl,hb⟩;exact⟨(),rfl,hw.below hb⟩)) (fun _=>h) ho hf hs he hr (.inr (.inr ⟨rfl,fun _ _ h=>h⟩)) hg
end
section
variable {P:Program} {n:Nat} {ds:List Deferred} {k:List KL} {S:Y->Prop} {l:Env} {fn:Func} {R:Ending->Y->Prop}
def RX:List Value->List Nat->Env
 | v::vs,i::is=>(i,v)::RX vs is
 | _,_=>[]
theorem RN:∀ (vs:List Value) (m t:Nat) (v:Value),lk (RX vs ((List.range' m (100 - m)))) t=F v->m<=t/\vs[t - m]? =F v
 | [],m,t,v,h=>by cases h
 | u::vs,m,t,v,h=>by
  by_cases hm:m<100
  ·rw[show 100 - m=(100 - (m+1))+1 by omega,List.range'_succ] at h;unfold RX at h;rw[Mw] at h;split at h
   ·rename_i e;subst e;cases h;exact⟨Nat.le_refl _,by simp⟩
   ·obtain⟨h1,h2⟩:=RN vs (m+1) t v h;exact⟨by omega,by rw[show t - m=(t - (m+1))+1 by omega,List.getElem?_cons_succ];exact h2⟩
  ·rw[show 100 - m=0 by omega] at h;cases h
theorem Af4:nums=List.range' 0 (100 - 0):=by decide
def Akz:Code->Code
 | .scope c=>c
 | c=>c
theorem YT {P:Program} {c:Code} {Qz:Exit->Act->Y->Prop} {a:Act} {w:Y} (hQ:∀ l a w,¬Qz (.goto l) a w) (h:(Akz c).wpIn Fence.wide 0 P Qz a w):c.wpIn Fence.wide 0 P Qz a w:=by
 cases c with
 | scope c=>
  refine wpIn_wide.2 (wp_scope_straight (wpIn_wide.1 (wpIn_mono h fun e a w q=>?_)));cases e with
  | goto l=>exact hQ l a w q
  | _=>exact q
 | _=>exact h
theorem V.enter {f:FuncId} {c:Code} {args:Array Value} {w:Y} (S:Y->Prop) (hf:P.funcs[f]? =F fn) (hS:S w) (h:V P Fence.wide (bodyPostM Fence.wide 0 P fn R) fn.ntmps [] [.c (Akz c)] S (RX args.toList nums)) (hb:fn.body=F c:=by rfl) (hn:args.size<=fn.ntmps:=by exact Nat.le_of_ble_eq_true rfl):Calls P f args w R:=by
 refine(callsIn_wide (n:=0)).1 (callsIn_of_wp_marks hf hb trivial ?_ rfl);have hk:Kn fn.ntmps [] (RX args.toList nums) {tmps:=args++Array.replicate (fn.ntmps - args.size) undef,defers:=[]}:=by
  refine⟨by simp;omega,rfl,fun t v ht=>?_⟩;rw[Af4] at ht;obtain⟨_,h2⟩:=RN _ _ _ _ ht;rw[Nat.sub_zero,Array.getElem?_toList] at h2;have hlt:=(Gl h2)
  rw[Array.getD_eq_getD_getElem?,Array.getElem?_append_left hlt,h2];rfl
 have h1:=(Nb ..).1 (h _ w hk hS);refine YT (fun l a w q=>q) (wpIn_mono h1 fun e a w q=>?_);cases e<;>exact q
def rvs (l:Env):List ResultVar->Option (List Value)
 | []=>F []
 | .tmp t::r=>match lk l t with
  | some v=>match rvs l r with
   | some vs=>F (v::vs)
   | none=>O
  | none=>O
 | .cell .. ::_=>O
def one:List Value->Value
 | [v]=>v
 | vs=>.tuple vs.toArray
theorem LH {a:Act} {w:Y} (ha:Kn n ds l a) {vs:List Value} (h:rvs l fn.results.toList=F vs):(results fn a.tmps).run P w=.ok (one vs) w:=by
 have key:∀ (rs:List ResultVar) (vs:List Value),rvs l rs=F vs->(rs.mapM (m:=Sem) (fun | .tmp t=>pure (a.tmps.getD t undef) | .cell x t=>do loadVar t (<- asAddr (a.tmps.getD x undef)))).run P w=.ok vs w:=by
  intro rs;induction rs with
  | nil=>intro vs h;cases h;rfl
  | cons r rs ih=>
   intro vs h;cases r with
   | cell x t=>cases h
   | tmp t=>
    unfold rvs at h;split at h
    ·rename_i v hv;split at h
     ·rename_i us hu;cases h
      simp only[List.mapM_cons,Sem.run_bind,ha.get t v hv]
      rw[show(pure v:Sem Value).run P w=.ok v w from rfl];simp only[Result.andThen_ok,ih us hu]
      rfl
     ·cases h
    ·cases h
 obtain⟨rs,hr⟩:∃ rs,fn.results.toList=rs:=⟨_,rfl⟩
 have hf:fn.results=rs.toArray:=by rw[<- hr]
 rw[hr] at h;unfold results;rw[hf,List.mapM_toArray];simp only[map_eq_pure_bind,Sem.run_bind]
 have h2:=key rs vs h;refine(congrArg (fun r:Result (List Value)=>(r.andThen fun x w'=>Sem.run P (pure x.toArray) w').andThen fun x w'=>Sem.run P (pure (if h:x.size=1 then x[0] else Value.tuple x)) w') h2).trans ?_
 match vs with
 | []=>rfl
 | [v]=>rfl
 | u::v::r=>simp[Sem.run,pure,one,Result.andThen]
theorem V.ret {vs:List Value} (hR:∀ w,S w->R (.returned (one vs)) w) (h:IP 400 O k=.ret:=by rfl) (hv:rvs l fn.results.toList=F vs:=by rfl):V P Fence.wide (bodyPostM Fence.wide 0 P fn R) n [] k S l:=
 V.at h fun a w ha hw=>by
  show LeavesInM Fence.wide 0 P fn a.tmps R a.defers .returning w;rw[ha.defers];exact⟨_,LH ha hv,hR w hw⟩
theorem V.fin {vs:List Value} (hR:∀ w,S w->R (.returned (one vs)) w) (h:IP 400 O k=.fin:=by rfl) (hv:rvs l fn.results.toList=F vs:=by rfl):V P Fence.wide (bodyPostM Fence.wide 0 P fn R) n [] k S l:=
 V.at h fun a w ha hw=>by
  show LeavesInM Fence.wide 0 P fn a.tmps R a.defers .returning w;rw[ha.defers];exact⟨_,LH ha hv,hR w hw⟩
end
end
end Go.Proofs.YtdpppepmkeinaaaGreatDoor
