/- What is proved: a part of the walk of the program and of its plain laws; no condition beside those that each theorem names. -/
import Derived.Test.YtdpppepmkeinaaaGreatDoorYxp
import Derived.Test.YtdpppepmkeinaaaGreatDoorYxo
import Derived.Test.YtdpppepmkeinaaaGreatDoorYxj
import Derived.Test.YtdpppepmkeinaaaGreatDoorYv
import Derived.Test.YtdpppepmkeinaaaGreatDoorYa
import Derived.Lib.ItoaLen
import Derived.Laws.CopyRow
import Derived.Laws.MakeOwn
namespace Go.Proofs.YtdpppepmkeinaaaGreatDoor
open Go Go.RowKit Go.Lib
open Go.Value renaming int->I,string->Q,slice->Z
open Go.IntKind renaming i64->J
open Option renaming none->O,some->F
open _root_.Go renaming World->Y
set_option linter.unusedSimpArgs false
set_option linter.unusedVariables false
set_option linter.unusedSectionVars false
section
set_option maxHeartbeats 4000000
set_option maxRecDepth 100000
theorem ZK (hC:RY) (n:Nat) (ps:List (Sc×Int)) (v:Value) (w:Y) (hn:ps.length=n) (hb:n<20):
  Ex Tryz.prog 217 #[v,I J n,.func (.func 182) #[] #[]] w (pA v n ps) (fun _:{l:List (Sc×Int) // UT l/\l.Perm ps}=>.tuple #[]) (fun l=>pA v n l.1):=by
 intro Fz hX hF;refine V.enter _ Tryz.func217 (Mem.startX hX hF) ?_
 repeat refine W ?_
 refine V.loop (ι:=Unit) (fun _=>True) (fun _=>Mem Fz w [pA v n ps]) (fun _=>[(6,I J 20),(7,I J 0),(8,I J 20),(0,v),(1,I J n),(2,.func (.func 182) #[] #[])]) (fun _=>0) () trivial (fun w h=>h) ⟨rfl,rfl,rfl,rfl,rfl,rfl,trivial⟩ ?_;rintro _ _
 repeat refine W ?_
 refine V.ifp (fun hlt=>?_) (fun hge=>?_)
 ·exfalso;omega
 repeat refine W ?_
 refine R.cw (fun w' h'=>Aeb hC n ps v w' hn (by omega)) (fun l=>?_)
 repeat refine W ?_
 refine V.loop (ι:=Unit) (fun _=>True) (fun _=>Mem Fz w [pA v n l.1]) (fun _=>[(6,I J 20),(7,I J 0),(8,I J 20),(0,v),(1,I J n),(2,.func (.func 182) #[] #[])]) (fun _=>0) () trivial (fun w h=>h) ⟨rfl,rfl,rfl,rfl,rfl,rfl,trivial⟩ ?_;rintro _ _
 repeat refine W ?_
 refine V.ifp (fun hlt=>?_) (fun hge=>?_)
 ·exfalso;omega
 repeat refine W ?_
 refine V.end fun w' h'=>?_;exact⟨l,rfl,Mem.toW h'.sel⟩
theorem Ade (hC:RY) (n:Nat) (hb:n<20):NM n:=by
 intro ps v w hn hnd Fz hX hF;subst hn;refine V.enter _ Tryz.func181 (Mem.startX hX hF) ?_;refine V.know (p:=∃ PA pc,v=Z PA ps.length pc) (fun w' h'=>(Co (show Mem Fz w [pA v ps.length ps] w' from h') (List.Mem.head _)).elim (fun⟨e,e0⟩=>⟨O,0,by rw[e,e0]⟩) (fun⟨g,c,e⟩=>⟨_,c,e⟩)) fun hv=>?_;obtain⟨PA,pc,rfl⟩:=hv
 repeat refine W ?_
 refine R.cw (X:=psA (Z PA ps.length pc) ps) (fun w' h'=>ZK hC ps.length ps _ w' rfl hb) (fun l=>?_)
 repeat refine W ?_
 refine V.end fun w' h'=>?_;obtain⟨l,h1,h2⟩:=l;have hl:=Afj hnd h1 h2;refine⟨(),rfl,Mem.toW ?_⟩;unfold psA;rw[<- hl,h2.length_eq];exact h'.sel
end
section
set_option maxHeartbeats 4000000
set_option maxRecDepth 100000
def Lp (w0:Y):Prop:=∀ (n:Int) (w:Y),Below w0.heap.size w0 w-> -1000000<=n->n<=1000000->Calls Tryz.prog 95 #[I J n] w fun e w'=>e=.returned (Q ⟨(Lib.itoa n).toArray⟩)/\Below w.heap.size w w'
theorem Lp.to {w0 w1:Y} (h:Lp w0) (hb:Below w0.heap.size w0 w1):Lp w1:=fun n w hw=>h n w (hb.trans (hw.mono hb.size))
theorem Xb:∀ (l:List Int),(∀ n∈l,(Lib.itoa n).length<=21)->(X8 l).length<=22*l.length
 | [],_=>Nat.le_refl _
 | n::r,h=>by
  have h1:=h n (by simp);have h2:=Xb r (fun x hx=>h x (by simp[hx]));unfold X8 at h2 |-;rw[List.flatMap_cons,List.length_append,List.length_append,List.length_cons,List.length_cons,List.length_nil];omega
theorem bsz (l:List UInt8):(⟨l.toArray⟩:ByteArray).size=l.length:=by simp[ByteArray.size]
theorem Akv (tt:TypeId) (l m:List UInt8) (w:Y) (hl:l.length+m.length<=1000000):(binOp .add tt (Q ⟨l.toArray⟩) (Q ⟨m.toArray⟩)).run Tryz.prog w=.ok (Q ⟨(l++m).toArray⟩) w:=by
 have e:(⟨l.toArray⟩:ByteArray)++⟨m.toArray⟩=⟨(l++m).toArray⟩:=by
  apply ByteArray.ext;rw[ByteArray.data_append];simp
 show(Op.stringOp .add ⟨l.toArray⟩ ⟨m.toArray⟩).run Tryz.prog w=_;have h:=bsz l;have h2:=bsz m;simp[Op.stringOp,e,Sem.run,pure];omega
theorem X9 (S:Nat->Prop) (A:Option Addr) (c:Nat) (is:List Int) (w:Y) (h:Ja w S A is) (hn:is.length<=40000) (hr:∀ n∈is,0<=n/\n<=1000000) (hI:Lp w):
  Calls Tryz.prog 204 #[Z A is.length c] w fun e w'=>e=.returned (Q ⟨(X8 is).toArray⟩)/\Below w.heap.size w w':=by
 have hl:∀ n∈is,(Lib.itoa n).length<=21:=fun n hx=>Lib.itoa_length_le n (by have:=hr n hx;omega) (by have:=hr n hx;omega);refine V.enter _ Tryz.func204 (Mem.start (C:=A5) w) ?_;refine W ?_;refine W ?_;refine W ?_;refine W ?_;refine R.new fun b3 h3=>?_;refine W ?_;refine V.pre (S':=Mem A5 w [O8 b3 []]) ?_ (fun w' h'=>X6 h'.sel)
 repeat refine W ?_
 refine V.loop (fun k=>k<=is.length) (fun k=>Mem A5 w [O8 b3 (X8 (is.take k))]) (fun k=>[(8,I J k),(7,I J is.length),(6,Z A is.length c),(3,.pointer (F ⟨b3,0,O⟩))]) (is.length - ·) 0 (Nat.zero_le _) (fun w h=>h) ⟨rfl,rfl,rfl,rfl,trivial⟩ ?_;rintro k hk
 repeat refine W ?_
 refine V.ifp (fun hlt=>?_) (fun hge=>?_)
 ·have hlt:k<is.length:=by omega
  obtain⟨n,hx⟩:∃ n,is[k]? =F n:=⟨_,List.getElem?_eq_getElem hlt⟩
  have hmem:=List.mem_of_getElem? hx;obtain⟨b,o,rfl,_,hc⟩:=h k n hx;have htl:=Xb (is.take k) (fun x hx=>hl x (List.mem_of_mem_take hx));rw[List.length_take] at htl;have hnl:=hl n hmem
  repeat refine W ?_
  refine R.ix hlt ?_;refine R.lo 0 hc ?_
  repeat refine W ?_
  refine R.c (fun w' h'=>hI n w' h'.1.below (by have:=hr n hmem;omega) (hr n hmem).2) ?_
  repeat refine W ?_
  refine R.bi (v:=Q ⟨(Lib.itoa n++[44]).toArray⟩) (fun w=>Akv _ _ [44] w (by rw[List.length_singleton];omega)) ?_;have hsz:=bsz (Lib.itoa n++[44]);rw[List.length_append,List.length_singleton] at hsz;refine R.cw (fun w' h'=>Aat b3 (X8 (is.take k)) ⟨(Lib.itoa n++[44]).toArray⟩ w' (by rw[hsz];omega)) (fun _=>?_)
  repeat refine W ?_
  refine V.again (k+1) rfl hlt (hs:=fun w' h'=>?_);have e:X8 (is.take (k+1))=X8 (is.take k)++(Lib.itoa n++[44]):=by
   unfold X8;rw[List.take_add_one,hx];simp
  rw[e];exact h'.sel
 ·have hi2:k=is.length:=by omega
  subst hi2;rw[List.take_length]
  repeat refine W ?_
  refine R.cx (v:=fun _:Unit=>Q ⟨(X8 is).toArray⟩) (A':=fun _=>[]) (fun w' h'=>(Aa4 h' Pk.hd).mono fun e w'' ⟨he,hm⟩=>⟨(),he,hm⟩) (fun _=>?_)
  repeat refine W ?_
  refine V.end fun w' h'=>?_;exact⟨rfl,h'.1.below⟩
end
section
set_option maxHeartbeats 4000000
set_option maxRecDepth 100000
def KN (tx:Sc->List UInt8) (ks:List Sc) (w0:Y):Prop:=∀ x∈ks,∀ w,Below w0.heap.size w0 w->Calls Tryz.prog 235 #[Ev x] w fun e w'=>∃ c:Int,e=.returned (.tuple #[Q ⟨(tx x).toArray⟩,I J c])/\Below w.heap.size w w'
theorem KN.to {tx:Sc->List UInt8} {ks:List Sc} {w0 w1:Y} (h:KN tx ks w0) (hb:Below w0.heap.size w0 w1):KN tx ks w1:=fun x hx w hw=>h x hx w (hb.trans (hw.mono hb.size))
def Q0 (tx:Sc->List UInt8) (ks:List Sc):List UInt8:=ks.flatMap fun k=>tx k++[44]
theorem Aby (tx:Sc->List UInt8) (ks:List Sc) (k:Nat) (x:Sc) (h:ks[k]? =F x):Q0 tx (ks.take (k+1))=Q0 tx (ks.take k)++(tx x++[44]):=by
 unfold Q0;rw[List.take_add_one,h];simp
theorem Ajo (tx:Sc->List UInt8) (ks:List Sc) (k:Nat):(Q0 tx (ks.take k)).length<=(Q0 tx ks).length:=by
 have:Q0 tx ks=Q0 tx (ks.take k)++Q0 tx (ks.drop k):=by unfold Q0;rw[<- List.flatMap_append,List.take_append_drop]
 rw[this,List.length_append];omega
theorem RD:∀ (ks:List Sc) (i:Nat) (p:Sc),ks[i]? =F p->(ks.flatMap Fl).drop (i*3)=Fl p++(ks.drop (i+1)).flatMap Fl
 | y::r,0,p,h=>by cases h;rfl
 | y::r,i+1,p,h=>by
  have:=RD r i p h;rw[List.flatMap_cons,show(i+1)*3=3+i*3 by omega,<- List.drop_drop];have e:(Fl y++r.flatMap Fl).drop 3=r.flatMap Fl:=List.drop_left' rfl;rw[e,this];rfl
theorem Ot.below {w w':Y} {S:Nat->Prop} {A:Option Addr} {g:Gf} {k:Nat} {x:Nd} (h:Ot w S A g k x) (hb:Below w.heap.size w w'):Ot w' S A g k x:=h.ext (B4.of_below hb)
theorem Yw (tx:Sc->List UInt8) (S:Nat->Prop) (g:Gf) (A:Option Addr) (c k pb:Nat) (x:Nd) (cv:Value) (w:Y) (h:Ot w S A g k x) (hpb:Cs w pb 0 [I J g.root,Z A g.nodes.length c,cv])
  (hT:KN tx (Et x) w) (hm:(Q0 tx (Et x)).length<=900000):
  Calls Tryz.prog 203 #[.pointer (F ⟨pb,0,O⟩),I J k] w fun e w'=>e=.returned (Q ⟨(Q0 tx (Et x)).toArray⟩)/\Below w.heap.size w w':=by
 have hpl:=ML x;have hs:=h.small;refine V.enter _ Tryz.func203 (Mem.start (C:=A5) w) ?_
 repeat refine W ?_
 refine R.lo 0 hpb ?_;refine W ?_;refine R.cf (fun w' h'=>Ux S g A c k x w' (h.ext h'.1)) (fun v=>?_);obtain⟨ks,hks⟩:∃ ks,Et x=ks:=⟨_,rfl⟩
 have hkl:ks.length<=1000000:=by rw[<- hks];unfold Et;rw[List.length_map];omega
 rw[hks] at hT hm |-;refine R.know (p:=(v=Z O 0 0/\ks.length=0)\/∃ g c,v=Z (F ⟨g,0,O⟩) ks.length c) (fun w' h'=>Co h' (List.Mem.head _)) fun hpv=>?_;obtain⟨PA,pc,rfl⟩:∃ PA pc,v=Z PA ks.length pc:=by
  rcases hpv with ⟨e,e0⟩ | ⟨g,c,e⟩
  ·exact⟨O,0,by rw[e,e0]⟩
  ·exact⟨_,c,e⟩
 iterate 6 refine W ?_
 refine W ?_;refine R.new fun b7 h7=>?_;refine W ?_;refine V.pre (S':=Mem A5 w [O8 b7 [],An 36 3 (Z PA ks.length pc) ks.length (ks.flatMap Fl)]) ?_ (fun w' h'=>X6 h'.sel)
 repeat refine W ?_
 refine V.loop (fun i=>i<=ks.length) (fun i=>Mem A5 w [O8 b7 (Q0 tx (ks.take i)),An 36 3 (Z PA ks.length pc) ks.length (ks.flatMap Fl)]) (fun i=>[(23,I J i),(22,I J ks.length),(21,Z PA ks.length pc),(7,.pointer (F ⟨b7,0,O⟩))]) (ks.length - ·) 0 (Nat.zero_le _) (fun w h=>h) ⟨rfl,rfl,rfl,rfl,trivial⟩ ?_;rintro i hi
 repeat refine W ?_
 refine V.ifp (fun hlt=>?_) (fun hge=>?_)
 ·have hlt:i<ks.length:=by omega
  obtain⟨y,hy⟩:∃ y,ks[i]? =F y:=⟨_,List.getElem?_eq_getElem hlt⟩
  have hPA:∃ g,PA=F ⟨g,0,O⟩:=by
   rcases hpv with ⟨_,e0⟩ | ⟨g,c,e⟩
   ·omega
   ·cases e;exact⟨g,rfl⟩
  obtain⟨pg,rfl⟩:=hPA;have hle:=Ajo tx ks (i+1);have hst:=Aby tx ks i y hy;have hle2:=congrArg List.length hst;rw[List.length_append,List.length_append,List.length_singleton] at hle2
  repeat refine W ?_
  refine R.ix hlt ?_;refine R.lw (v:=Ev y) ?_ ?_
  ·rw[Nat.zero_add,RD ks i y hy];rfl
  refine R.new fun b9 h9=>?_
  repeat refine W ?_
  refine R.cf (v:=fun c:Int=>.tuple #[Q ⟨(tx y).toArray⟩,I J c]) (X:=fun _=>[]) (fun w' h'=>(hT y (List.mem_of_getElem? hy) w' h'.1.below).mono fun e w'' ⟨c,he,hb⟩=>⟨c,he,hb,trivial⟩) (fun c=>?_)
  repeat refine W ?_
  refine R.bi (v:=Q ⟨(tx y++[44]).toArray⟩) (fun w=>Akv _ _ [44] w (by rw[List.length_singleton];omega)) ?_;have hsz:=bsz (tx y++[44]);rw[List.length_append,List.length_singleton] at hsz;refine R.cw (fun w' h'=>Aat b7 (Q0 tx (ks.take i)) ⟨(tx y++[44]).toArray⟩ w' (by rw[hsz];omega)) (fun _=>?_)
  repeat refine W ?_
  refine V.again (i+1) rfl hlt (hs:=fun w' h'=>?_);rw[hst];exact h'.sel
 ·have hi2:i=ks.length:=by omega
  subst hi2;rw[List.take_length]
  repeat refine W ?_
  refine R.cx (v:=fun _:Unit=>Q ⟨(Q0 tx ks).toArray⟩) (A':=fun _=>[]) (fun w' h'=>(Aa4 h' Pk.hd).mono fun e w'' ⟨he,hm⟩=>⟨(),he,hm⟩) (fun _=>?_)
  repeat refine W ?_
  refine V.end fun w' h'=>?_;exact⟨rfl,h'.1.below⟩
end
section
set_option maxHeartbeats 8000000
set_option maxRecDepth 100000
theorem QG (A R:List Int) (x y:Int):Bo ((A++x::R).map (Value.int .i64)) A.length [I J y]=F ((A++y::R).map (Value.int .i64)):=by
 have hn:∀ l:List Value,Bo l 0 []=F l:=by intro l;cases l<;>rfl
 have h0:Bo (Value.int .i64 x::R.map (I J)) 0 [I J y]=F (Value.int .i64 y::R.map (I J)):=by
  show(match Bo (R.map (Value.int .i64)) 0 [] with | some r=>F (_::r) | none=>O)=_;rw[hn]
 rw[List.map_append,List.map_append,List.map_cons,List.map_cons];have:=Ee (A.map (Value.int .i64)) _ 0 _ _ h0
 rwa [List.length_map,Nat.add_zero] at this
theorem ZQ (A R:List Int) (x:Int):((A++x::R).map (Value.int .i64)).drop A.length=I J x::R.map (I J):=by
 rw[List.map_append,List.map_cons];have:(A.map (Value.int .i64)).length=A.length:=List.length_map ..;rw[<- this,List.drop_left]
def Alo (x:Nd) (ks cs:List UInt8):List Value:=[I J x.kind,I J x.x.kind,I J x.x.num,Q x.x.str,Q ⟨ks.toArray⟩,Q ⟨cs.toArray⟩]
def Fh (cls:List Int) (is:List Int):List Int:=is.map fun k=>cls.getD k.toNat 0
theorem Zc (tx:Sc->List UInt8) (S S2:Nat->Prop) (g:Gf) (A CA:Option Addr) (c cc k pb:Nat) (x:Nd) (cls:List Int) (w:Y) (h:Ot w S A g k x) (hpb:Cs w pb 0 [I J g.root,Z A g.nodes.length c,Z CA cls.length cc])
  (hC:Ja w S2 CA cls) (hcr:∀ n∈cls,0<=n/\n<=1000000) (hkr:∀ n∈Fk x,0<=n/\n<cls.length) (hkn:(Fk x).length<=40000) (hT:KN tx (Et x) w) (hm:(Q0 tx (Et x)).length<=900000) (hI:Lp w):
  Calls Tryz.prog 160 #[.pointer (F ⟨pb,0,O⟩),I J k] w fun e w'=>e=.returned (.agg (Alo x (Q0 tx (Et x)) (X8 (Fh cls (Fk x)))).toArray)/\Below w.heap.size w w':=by
 obtain⟨b,o,KA,kc,IA,ic,rfl,hSb,hc,hk,hi⟩:=h.nds k x h.get;have hlt:=(List.getElem?_eq_some_iff.1 h.get).1;obtain⟨ks,hks⟩:∃ ks,Fk x=ks:=⟨_,rfl⟩
 have hKd:=UM S g (F ⟨b,o,O⟩) c k x;have hK:=Yw tx S g (F ⟨b,o,O⟩) c k pb x (Z CA cls.length cc);rw[hks] at hkr hkn hKd |-;refine V.enter _ Tryz.func160 (Mem.start (C:=A5) w) ?_;refine W ?_;refine R.new fun b4 h4=>?_
 repeat refine W ?_
 refine R.lo 0 hpb ?_;refine W ?_;refine R.cf (fun w' h'=>hKd w' (h.ext h'.1)) (fun v=>?_);refine R.know (p:=(v=Z O 0 0/\ks.length=0)\/∃ g c,v=Z (F ⟨g,0,O⟩) ks.length c) (fun w' h'=>Co h' (List.Mem.head _)) fun hpv=>?_;obtain⟨PA,pc,rfl⟩:∃ PA pc,v=Z PA ks.length pc:=by
  rcases hpv with ⟨e,e0⟩ | ⟨g,c,e⟩
  ·exact⟨O,0,by rw[e,e0]⟩
  ·exact⟨_,c,e⟩
 repeat refine W ?_
 refine V.loop (fun i=>i<=ks.length) (fun i=>Mem A5 w [An 3 1 (Z PA ks.length pc) ks.length ((Fh cls (ks.take i)++ks.drop i).map (I J)),blk b4 [I J 0,I J 0,I J 0,Q .empty,Q .empty,Q .empty] 255]) (fun i=>[(20,I J i),(19,I J ks.length),(18,Z PA ks.length pc),(5,Z PA ks.length pc),(0,.pointer (F ⟨pb,0,O⟩)),(1,I J k),(4,.pointer (F ⟨b4,0,O⟩))]) (ks.length - ·) 0 (Nat.zero_le _) (fun w h=>h.sel) ⟨rfl,rfl,rfl,rfl,rfl,rfl,rfl,trivial⟩ ?_;rintro i hi2
 repeat refine W ?_
 refine V.ifp (fun hlt=>?_) (fun hge=>?_)
 ·have hlt2:i<ks.length:=by omega
  obtain⟨n,hn⟩:∃ n,ks[i]? =F n:=⟨_,List.getElem?_eq_getElem hlt2⟩
  obtain⟨hn0,hn1⟩:=hkr n (List.mem_of_getElem? hn);obtain⟨y,hy⟩:∃ y,cls[n.toNat]? =F y:=⟨_,List.getElem?_eq_getElem (by omega)⟩
  have hyd:cls.getD n.toNat 0=y:=by rw[List.getD,hy];rfl
  obtain⟨cb,co,rfl,_,hcc⟩:=hC n.toNat y hy;have hPA:∃ g,PA=F ⟨g,0,O⟩:=by
   rcases hpv with ⟨_,e0⟩ | ⟨g,c,e⟩
   ·omega
   ·cases e;exact⟨g,rfl⟩
  obtain⟨pg,rfl⟩:=hPA;have hdr:ks.drop i=n::ks.drop (i+1):=by
   rw[List.drop_eq_getElem_cons hlt2];rw[List.getElem?_eq_getElem hlt2] at hn;cases hn;rfl
  have htk:Fh cls (ks.take (i+1))=Fh cls (ks.take i)++[y]:=by
   unfold Fh;rw[List.take_add_one,hn,List.map_append];congr 1;show[cls.getD n.toNat 0]=[y];rw[hyd]
  have hcl:(Fh cls (ks.take i)).length=i:=by unfold Fh;rw[List.length_map,List.length_take];omega
  have hat:=ZQ (Fh cls (ks.take i)) (ks.drop (i+1)) n;have hst:=QG (Fh cls (ks.take i)) (ks.drop (i+1)) n y;rw[hcl] at hat hst;rw[hdr]
  repeat refine W ?_
  refine R.ix hlt2 ?_;refine R.lw (v:=I J n) ?_ ?_
  ·rw[Nat.zero_add,Nat.mul_one,hat];rfl
  repeat refine W ?_
  refine R.lo 2 hpb ?_
  repeat refine W ?_
  refine R.re 31 (v:=I J n) (v':=I J (n.toNat:Int)) (by congr 1;omega) ?_;refine R.ix (show n.toNat<cls.length by omega) ?_;refine R.lo 0 hcc ?_;refine R.ix hlt2 ?_;refine R.sw (v:=I J y) (xs':=(Fh cls (ks.take i)++y::ks.drop (i+1)).map (I J)) ?_ ?_
  ·rw[Nat.zero_add,Nat.mul_one];exact hst
  repeat refine W ?_
  refine V.again (i+1) rfl hlt2 (hs:=fun w' h'=>?_);rw[htk,List.append_assoc];exact h'.sel
 ·have hi3:i=ks.length:=by omega
  subst hi3;rw[List.take_length,List.drop_length,List.append_nil];have hcl:(Fh cls ks).length=ks.length:=by unfold Fh;rw[List.length_map]
  have hcm:∀ n∈Fh cls ks,0<=n/\n<=1000000:=fun n hn=>by
   unfold Fh at hn;obtain⟨z,hz,rfl⟩:=List.mem_map.1 hn;have:=hkr z hz;rw[List.getD,List.getElem?_eq_getElem (by omega)];exact hcr _ (List.getElem_mem _)
  repeat refine W ?_
  refine R.lo 1 hpb ?_
  repeat refine W ?_
  refine R.ix hlt ?_
  repeat refine W ?_
  refine R.lo 0 hc ?_
  repeat refine W ?_
  refine R.lo 1 hpb ?_
  repeat refine W ?_
  refine R.ix hlt ?_
  repeat refine W ?_
  refine R.lo 1 hc ?_
  repeat refine W ?_
  refine R.c (fun w' h'=>hK w' (h.ext h'.1) (h'.1.cs hpb fun e=>e) (hT.to h'.1.below) hm) ?_
  repeat refine W ?_
  refine R.c (v:=Q ⟨(X8 (Fh cls ks)).toArray⟩) (fun w' h'=>?_) ?_
  ·obtain⟨Fz,h1,_⟩:=h'.has (List.Mem.head _);rw[<- hcl] at h1;obtain⟨A',c',e,hv⟩:=An.is' h1 rfl;rw[<- hcl,e];exact X9 Fz A' c' (Fh cls ks) w' hv (by rw[hcl];exact hkn) hcm (hI.to h'.1.below)
  repeat refine W ?_
  refine W ?_ (by exact R.st (hp:=.inr (.inl ⟨rfl,by kernel_rfl⟩)))
  repeat refine W ?_
  refine V.end (fun w' h'=>?_) (hv:=.agg rfl (by(repeat (first | exact List.Mem.head _ | apply List.Mem.tail))) (by intro w;kernel_rfl) (by intro w;simp;try rfl) .nil);exact⟨rfl,h'.1.below⟩
end
section
set_option maxHeartbeats 4000000
set_option maxRecDepth 100000
structure Aa3 (wB:Y) (tx:Sc->List UInt8) (ns:List Nd) (m:Nat):Prop where
 len:ns.length<=1000
 small:∀ x∈ns,x.keys.length<=1000000/\x.kids.length<=40000
 once:∀ x∈ns,x.keys.Nodup
 sort:∀ x∈ns,NM x.keys.length
 text:∀ x∈ns,KN tx (Et x) wB
 fit:∀ x∈ns,(Q0 tx (Et x)).length<=900000
 kids:∀ x∈ns,∀ n∈x.kids,0<=n/\n<m
 itoa:Lp wB
def ON (w:Y) (S:Nat->Prop) (pb:Nat) (A CA:Option Addr) (c cc:Nat) (g:Gf) (cls:List Int):Prop:=
 Cs w pb 0 [I J g.root,Z A g.nodes.length c,Z CA cls.length cc]/\S pb/\Fa w S A g.nodes/\Ja w S CA cls
theorem ON.to {w w':Y} {S S':Nat->Prop} {pb:Nat} {A CA:Option Addr} {c cc:Nat} {g:Gf} {cls:List Int} (h:ON w S pb A CA c cc g cls) (hc:∀ b o v,S b->w.cell? ⟨b,o,O⟩=F v->w'.cell? ⟨b,o,O⟩=F v/\S' b):ON w' S' pb A CA c cc g cls:=
 ⟨fun i v hv=>(hc pb _ v h.2.1 (h.1 i v hv)).1,(hc pb _ _ h.2.1 (h.1 0 _ rfl)).2,h.2.2.1.to hc,h.2.2.2.to hc⟩
def Ahx (tx:Sc->List UInt8) (cls:List Int) (x:Nd):List Value:=Alo x (Q0 tx (Et x)) (X8 (Fh cls (Fk x)))
def Ft (tx:Sc->List UInt8) (cls:List Int) (ns:List Nd):List (Nat×Nd):=ns.zipIdx.map fun p=>(p.2,p.1)
theorem Wm {tx:Sc->List UInt8} {cls:List Int} {ns:List Nd} {k:Nat} {x:Nd} (h:ns[k]? =F x):(Ft tx cls ns)[k]? =F (k,x):=by simp[Ft,h]
theorem JF {tx:Sc->List UInt8} {cls:List Int} {ns:List Nd}:(Ft tx cls ns).length=ns.length:=by simp[Ft]
theorem YA (x:Nd):(Fk x).length<=max x.keys.length x.kids.length/\(x.kids.length<=40000->(Fk x).length<=40000):=by
 unfold Fk Gb;split
 ·exact⟨by omega,id⟩
 ·split
  ·rw[List.length_map,(Ef _).length_eq,List.length_zip];omega
  ·simp
theorem Ajp (wB:Y) (tx:Sc->List UInt8) (gb pb:Nat) (A CA:Option Addr) (c cc:Nat) (g:Gf) (cls:List Int) (hP:Aa3 wB tx g.nodes cls.length) (hcr:∀ n∈cls,0<=n/\n<=1000000):
  Jl Tryz.prog 159 #[.pointer (F ⟨gb,0,O⟩)] (fun(x:Nat×Nd)=>[I J x.1,.agg (Ahx tx cls x.2).toArray]) (fun _=>[]) (fun _=>[blk gb [.pointer (F ⟨pb,0,O⟩)] 112])
   (fun pre x=>(Ft tx cls g.nodes)[pre.length]? =F x) (fun xs=>xs=Ft tx cls g.nodes) (fun w G=>Below wB.heap.size wB w/\Hx wB G/\ON w (fun b=>¬G b) pb A CA c cc g cls):=by
 refine Jl.of fun l Jz Jx w G hSt hG hY hM=>?_;obtain⟨hB,hQ,hPv⟩:=hSt;obtain⟨hpb,hpn,hns,hci⟩:=id hPv;refine V.enter _ Tryz.func159 hM ?_
 repeat refine W ?_
 refine R.lo 1 hpb ?_ hpn
 repeat refine W ?_
 have hlen:=hP.len;refine V.loop (·<=g.nodes.length) (fun k=>Mem G w [blk gb [.pointer (F ⟨pb,0,O⟩)] 112,Jz ((Ft tx cls g.nodes).take k)]) (fun k=>[(10,I J k),(9,I J g.nodes.length),(0,.func (.yield l) #[] #[]),(1,.pointer (F ⟨gb,0,O⟩))]) (g.nodes.length - ·) 0 (by omega) (fun w h=>h) ⟨rfl,rfl,rfl,rfl,trivial⟩ ?_;intro k hk
 repeat refine W ?_
 refine V.ifp (fun h=>?_) (fun h=>?_)
 ·have hkr:k<g.nodes.length:=by omega
  obtain⟨x,hx⟩:∃ x,g.nodes[k]? =F x:=⟨_,List.getElem?_eq_getElem hkr⟩
  have hxm:=List.mem_of_getElem? hx;have hi:=Wm (tx:=tx) (cls:=cls) hx;have hl:((Ft tx cls g.nodes).take k).length=k:=by rw[List.length_take,JF];omega
  have hsx:=hP.small x hxm
  repeat refine W ?_
  refine R.c (v:=.agg (Ahx tx cls x).toArray) (fun w' h'=>?_) ?_
  ·have hst:∀ b o v,¬G b->w.cell? ⟨b,o,O⟩=F v->w'.cell? ⟨b,o,O⟩=F v/\¬G b:=fun b o v hb hv=>⟨h'.1.cell hv hb,hb⟩
   have hBw:=B4.belowB hB hQ h'.1;obtain⟨p1,p2,p3,p4⟩:=hPv.to hst;exact Zc tx _ _ g A CA c cc k pb x cls w' ⟨p3,hx,⟨hsx.1,by omega⟩,hP.once x hxm,hP.sort x hxm⟩ p1 p4 hcr (fun n hn=>hP.kids x hxm n (Zi hn)) ((YA x).2 hsx.2) ((hP.text x hxm).to hBw) (hP.fit x hxm) (hP.itoa.to hBw)
  refine R.y (hY _ (k,x) (by rw[hl];exact hi)) ?_ ?_
  ·rw[Nv hi]
   repeat refine W ?_
   exact V.again (k+1)
  ·repeat refine W ?_
   refine V.end fun w' h'=>?_;exact⟨⟨_,rfl⟩,.inr ⟨_,h'.sel⟩⟩
 ·repeat refine W ?_
  refine V.end fun w' h'=>?_;exact⟨⟨_,rfl⟩,.inl ⟨_,rfl,by rwa [List.take_of_length_le (by rw[JF];omega)] at h'⟩⟩
theorem Y0 (pb:Nat) (w:Y):Calls Tryz.prog 120 #[.pointer (F ⟨pb,0,O⟩)] w fun e w'=>∃ b:Nat,e=.returned (.func (.func 159) #[] #[.pointer (F ⟨b,0,O⟩)])/\Fr w w' [blk b [.pointer (F ⟨pb,0,O⟩)] 112]:=by
 refine V.enter _ Tryz.func120 (Mem.start (C:=A5) w) ?_
 repeat refine W ?_
 refine R.new fun b hb=>?_
 repeat refine W ?_
 refine V.end fun w' h'=>?_;exact⟨b,rfl,h'.to_fr⟩
end
section
set_option maxHeartbeats 2000000
set_option maxRecDepth 100000
def Hb (s:Say):Value:=.agg #[I J s.1,I J s.2.1.kind,I J s.2.1.num,Q s.2.1.str,Q ⟨s.2.2.1.toArray⟩,Q ⟨s.2.2.2.toArray⟩]
theorem Aer (x y:Say):(x.1==y.1&&((x.2.1.kind==y.2.1.kind&&(x.2.1.num==y.2.1.num&&x.2.1.str.toList==y.2.1.str.toList))&&(((⟨x.2.2.1.toArray⟩:ByteArray).toList==(⟨y.2.2.1.toArray⟩:ByteArray).toList)&&((⟨x.2.2.2.toArray⟩:ByteArray).toList==(⟨y.2.2.2.toArray⟩:ByteArray).toList))))=decide (x=y):=by
 simp only[ByteArray.toList_eq]
 rw[Bool.eq_iff_iff];simp only[Bool.and_eq_true,beq_iff_eq,decide_eq_true_eq]
 constructor
 ·rintro⟨h1,⟨h2,h3,h4⟩,h5,h6⟩;have hs:x.2.1=y.2.1:=KH (by simp[Jf,h2,h3,h4]);exact Prod.ext h1 (Prod.ext hs (Prod.ext (by simpa using h5) (by simpa using h6)))
 ·rintro rfl;exact⟨rfl,⟨rfl,rfl,rfl⟩,rfl,rfl⟩
theorem Ai2 (x y:Say) (w:Y):(binOp .eql 255 (Hb x) (Hb y)).run Tryz.prog w=.ok (.bool (decide (x=y))) w:=by
 rw[<- Aer];obtain⟨k1,⟨a1,n1,s1⟩,p1,q1⟩:=x;obtain⟨k2,⟨a2,n2,s2⟩,p2,q2⟩:=y;unfold Hb;rw[run_eql_struct];dsimp only
 generalize (⟨p1.toArray⟩:ByteArray)=P1;generalize (⟨p2.toArray⟩:ByteArray)=P2;generalize (⟨q1.toArray⟩:ByteArray)=Q1;generalize (⟨q2.toArray⟩:ByteArray)=Q2;cases h0:(k1==k2)
 ·go_simp
 cases h1:(a1==a2)
 ·go_simp
 cases h2:(n1==n2)
 ·go_simp
 cases h3:(s1.toList==s2.toList)
 ·go_simp
 cases h4:(P1.toList==P2.toList)
 ·go_simp
 cases h5:(Q1.toList==Q2.toList)<;>go_simp
theorem Ala (em:Bool) (n:Nat) (v:Int) (w:Y):(Instr.checkKey em (n+1) 3 (I J v)).run Tryz.prog w=.ok () w:=by
 unfold Instr.checkKey;simp only[Sem.run_bind,run_underlying Tryz.underlying3,Result.andThen_ok];rfl
theorem Alc (em:Bool) (n:Nat) (v:ByteArray) (w:Y):(Instr.checkKey em (n+1) 9 (Q v)).run Tryz.prog w=.ok () w:=by
 unfold Instr.checkKey;simp only[Sem.run_bind,run_underlying Tryz.underlying9,Result.andThen_ok];rfl
theorem Akw (em:Bool) (n:Nat) (x:Sc) (w:Y):(Instr.checkKey em (n+1+1) 36 (Ev x)).run Tryz.prog w=.ok () w:=by
 unfold Ev Instr.checkKey;simp only[Sem.run_bind,run_underlying Tryz.underlying36,Result.andThen_ok]
 go_simp;simp[Ala,Alc]
theorem Ajh (em:Bool) (s:Say) (w:Y):(Instr.checkKey em 10000 255 (Hb s)).run Tryz.prog w=.ok () w:=by
 show(Instr.checkKey em (9998+1+1) 255 (Hb s)).run Tryz.prog w=_;unfold Hb Instr.checkKey;simp only[Sem.run_bind,run_underlying Tryz.underlying255,Result.andThen_ok]
 go_simp;have h1:=Ala em 9998 s.1;have h2:=Akw em 9997 s.2.1;have h3:=Alc em 9998;unfold Ev at h2;simp[h1,h2,h3]
theorem Qd:L2 Tryz.prog 255 Hb:=L2.asks Tryz.underlying255 (fun u v=>by cases u<;>cases v<;>rfl) Ajh (fun x y w=>by
  have h:=Ai2 x y w;have e1:binOp .eql 255 (Hb x) (Hb y)=(do let r <- Op.equal 255 (Hb x) (Hb y);pure (Value.bool r)):=rfl;rw[e1,Sem.run_bind] at h;cases hq:(Op.equal 255 (Hb x) (Hb y)).run Tryz.prog w<;>rw[hq] at h<;>simp_all [Result.andThen,pure,Sem.run]) (fun x=>by
  show Instr.sameBits (9999+1) _ _=true;simp[Hb,Instr.sameBits];refine⟨?_,?_,?_⟩<;>(rw[ZG];simp))
end
section
section
variable {P:Program} {n:Nat} {ds:List Deferred} {d:Bool} {ops:Array Oper} {K:Act->Y->Prop} {i:Nat} {pl pend pend':List Nat} {l:Env}
 {t:Nat} {ty:TypeId} {ps:String} {af:Array Edge} {gd:Option (Nat×Bool)} {C:Nat->Prop} {w0:Y} {A A':List Aw}
theorem R.cp {x y:Operand} {t1 t2 e:TypeId} {g k c sc:Nat} {ad:Addr} {xs ys:List Value} (hk:ys.length=k) (hsrc:∀ w,Mem C w0 A w->∀ j u,ys[j]? =F u->w.cell? (ad.add j)=F u) (h1:∀ u∈ys,u.oneCell'=true)
  (h:Rj P n ds d ops K pl pend' (Mem C w0 A') ((t,I J k)::l))
  (ho:AQ ops.toList i=F ⟨F t,.call {callee:=.builtin .copy,args:=#[x,y],argTypes:=#[t1,t2]},ty,ps,af,gd⟩:=by rfl) (hx:ev l x=F (Z (F ⟨g,0,O⟩) k c):=by rfl) (hy:ev l y=F (Z (F ad) k sc):=by rfl)
  (hr:E5 (An e 1 (Z (F ⟨g,0,O⟩) k c) k xs) (An e 1 (Z (F ⟨g,0,O⟩) k c) k ys) A A':=by(repeat (first | exact E5.hd | apply E5.tl));first | done | fail) (hu:P.underlying t1=F (.slice e):=by kernel_rfl) (hi:(P.info? e).map (·.size)=F 1:=by kernel_rfl)
  (hp:Wq (ι:=Unit) d ops i pend pend' (fun _=>Mem C w0 A') (Mem C w0 A):=by first | exact .inl ⟨rfl,rfl⟩ | exact .inr (.inl ⟨rfl,by kernel_rfl⟩)) (hg:D0 ops.toList l gd=F true:=by rfl):Rj P n ds d ops K (i::pl) pend (Mem C w0 A) l:=
 R.eff (ι:=Unit) (Si:=fun _=>Mem C w0 A') (li:=fun _=>(t,I J k)::l) ho hg rfl (fun a w K' ha hd hw hk'=>by
  obtain⟨G,⟨⟨g1,g2⟩,g0⟩,g3,g4⟩:=hw.rep hr;rcases g2 with ⟨g2,_⟩ | ⟨g',cap,cur,hvv,q1,q2,q3,q4,q5,q6⟩
  ·cases g2
  cases hvv
  have hrun:=run_copy_row (P:=P) w t1 t2 ty e g 0 k c ad k sc cur e ys hu hi q2 (by rw[hk];simp) (hsrc w hw) (by rw[q5];omega) h1;rw[Nat.zero_add,List.take_zero,List.nil_append,hk] at hrun;unfold FI;have:(execOp a.eval ⟨F t,.call {callee:=.builtin .copy,args:=#[x,y],argTypes:=#[t1,t2]},ty,ps,af,gd⟩).run P w=.ok (.value (I J k)) (w.setRow g (ys++cur.toList.drop k).toArray):=by
   simp[execOp,resolve,invoke,builtin,Sem.run_bind,pure,ha.ev hx,ha.ev hy,hrun,goInt]
  rw[this];have hsz:(w.setRow g (ys++cur.toList.drop k).toArray).heap.size=w.heap.size:=by simp
  refine hk' () _ _ (g4 G _ ⟨⟨by rw[hk,Nat.mul_one],.inr ⟨g,c,_,rfl,q1,setRow_heap w g cur _ e _ q2,q3,q4,?_,?_⟩⟩,g0⟩ ⟨rfl,rfl,rfl,by rw[hsz];exact Nat.le_refl _,fun b _ hb=>setRow_other w g b _ (fun e=>hb (by subst e;exact g0 _ rfl))⟩ (fun b hb=>⟨by rw[hsz];exact(g3 b hb).1,.inl hb⟩)) (hd _)
  ·simp only[List.size_toArray,List.length_append,List.length_drop,Array.length_toList]
   rw[q5,hk];omega
  ·rw[List.toList_toArray,List.take_append_of_le_length (by omega),List.take_of_length_le (by omega)]) hp (fun _=>h)
end
end
section
set_option maxRecDepth 100000
theorem mkI (n:Nat) (w:Y) (hn:n<=1000000):(Instr.makeSlice 38 (I J n) (I J n)).run Tryz.prog w=.ok (Z (F ⟨w.heap.size,0,O⟩) n n) (w.alloc (.cells (List.replicate n (Value.int .i64 0)).toArray 3)):=by
 obtain⟨i,hi,hz,hs,hb⟩:∃ i,Tryz.prog.info? 3=F i/\i.zero=F (I J 0)/\i.size=1/\i.bytes=8:=by
  have h:(Tryz.prog.info? 3).map (fun i=>(i.zero,i.size,i.bytes))=F (F (I J 0),1,8):=by kernel_rfl
  cases hi:Tryz.prog.info? 3 with
  | none=>rw[hi] at h;cases h
  | some i=>rw[hi] at h;simp only[Option.map_some,Option.some.injEq,Prod.mk.injEq] at h;exact⟨i,rfl,h.1,h.2.1,h.2.2⟩
 have:=run_makeSlice (P:=Tryz.prog) w 38 3 i (I J 0) elI.und hi hz .i64 .i64 n n (by omega) (Int.le_refl _) (by rw[hs];simp;omega) (by rw[hb];omega) (by omega);rw[this,hs];congr 3;apply Array.ext';simp only[madeCells,Value.cells,Array.toList_map,Array.toList_range,List.toList_toArray]
 rw[List.eq_replicate_iff];refine⟨by simp,fun b hb=>?_⟩;obtain⟨j,_,rfl⟩:=List.mem_map.1 hb;simp[Nat.mod_one]
theorem Mem.held {w0 w:Y} {A:List Aw} {X:Aw} {Fz:Nat->Prop} (h:Mem A5 w0 A w) (hX:X.is Fz w0) (hF:∀ b,Fz b->b<w0.heap.size):Mem Fz w0 (X::A) w:=
 ⟨h.1.sub (fun _ _ e=>e.elim),Fz,X.loc _ _ _ (fun b hb=>h.1.block b (hF b hb) (fun e=>e)) hX,fun b hb=>⟨Nat.lt_of_lt_of_le (hF b hb) h.1.size,.inr hb⟩,h.2.mono (fun b hb=>⟨⟨hb.1,.inl (hb.2.elim id (fun e=>e.elim))⟩,fun hf=>by have h1:=hF b hf;have h2:=hb.2.elim id (fun e=>e.elim);omega⟩) (fun _ _=>rfl)⟩
def KsM (wB w:Y) (Fz:Nat->Prop) (A:Option Addr) (ks:List Sc):Prop:=GZ w Fz A ks\/GZ wB (fun b=>b<wB.heap.size) A ks
def IsM (wB w:Y) (Fz:Nat->Prop) (A:Option Addr) (is:List Int):Prop:=Ja w Fz A is\/Ja wB (fun b=>b<wB.heap.size) A is
def Zn (wB w:Y) (Fz:Nat->Prop) (A:Option Addr) (ns:List Nd):Prop:=∀ j x,ns[j]? =F x->∃ b o KA kc IA ic,A=F ⟨b,o,O⟩/\Fz b/\Cs w b (o+j*6) (Ps x (Z KA x.keys.length kc) (Z IA x.kids.length ic))/\KsM wB w Fz KA x.keys/\IsM wB w Fz IA x.kids
theorem Q6 {Fz:Nat->Prop} {w w':Y} (h:∀ b,Fz b->w'.heap[b]? =w.heap[b]?):∀ b o v,Fz b->w.cell? ⟨b,o,O⟩=F v->w'.cell? ⟨b,o,O⟩=F v/\Fz b:=fun b o v hb hv=>⟨(World.cell?_of_block (w:=w) (a:=⟨b,o,O⟩) (h b hb)).trans hv,hb⟩
theorem Zn.loc {wB w w':Y} {Fz:Nat->Prop} {A:Option Addr} {ns:List Nd} (h:Zn wB w Fz A ns) (hl:∀ b,Fz b->w'.heap[b]? =w.heap[b]?):Zn wB w' Fz A ns:=fun j x hj=>by
 obtain⟨b,o,KA,kc,IA,ic,e,hb,hc,hk,hi⟩:=h j x hj;exact⟨b,o,KA,kc,IA,ic,e,hb,fun i v hv=>(Q6 hl b _ v hb (hc i v hv)).1,hk.imp (fun h=>h.to (Q6 hl)) id,hi.imp (fun h=>h.to (Q6 hl)) id⟩
def grW (wB:Y) (v:Value) (g:Gf):Aw:=⟨fun Fz w=>∃ (A:Option Addr) (c:Nat),v=Fx A c g/\Zn wB w Fz A g.nodes,fun Fz w w' h ⟨A,c,e,hk⟩=>⟨A,c,e,hk.loc h⟩⟩
theorem Zn.nds {wB w:Y} {Fz:Nat->Prop} {A:Option Addr} {ns:List Nd} (h:Zn wB w Fz A ns) (hB:Below wB.heap.size wB w):Fa w (fun b=>Fz b\/b<wB.heap.size) A ns:=fun j x hj=>by
 obtain⟨b,o,KA,kc,IA,ic,e,hb,hc,hk,hi⟩:=h j x hj;have h1:∀ b o v,Fz b->w.cell? ⟨b,o,O⟩=F v->w.cell? ⟨b,o,O⟩=F v/\(Fz b\/b<wB.heap.size):=fun b o v hb hv=>⟨hv,.inl hb⟩
 have h2:∀ b o v,b<wB.heap.size->wB.cell? ⟨b,o,O⟩=F v->w.cell? ⟨b,o,O⟩=F v/\(Fz b\/b<wB.heap.size):=fun b o v hb hv=>⟨(B4.of_below (C:=A5) hB).cell hv (fun e=>e),.inr hb⟩
 exact⟨b,o,KA,kc,IA,ic,e,.inl hb,hc,hk.elim (fun h=>h.to h1) (fun h=>h.to h2),hi.elim (fun h=>h.to h1) (fun h=>h.to h2)⟩
def Vv (wB:Y) (pb:Nat) (A CA:Option Addr) (c cc:Nat) (g:Gf) (cls:List Int):List Aw:=[blk pb [I J g.root,Z A g.nodes.length c,Z CA cls.length cc] 182,An 3 1 (Z CA cls.length cc) cls.length (cls.map (I J)),grW wB (Fx A c g) g]
def MC (wB:Y) (pb:Nat) (A CA:Option Addr) (c cc:Nat) (g:Gf) (cls:List Int):Aw:=star (Vv wB pb A CA c cc g cls)
theorem MC.part {wB:Y} {pb:Nat} {A CA:Option Addr} {c cc:Nat} {g:Gf} {cls:List Int} {Fz:Nat->Prop} {w:Y} (h:(MC wB pb A CA c cc g cls).is Fz w) (hB:Below wB.heap.size wB w):ON w (fun b=>Fz b\/b<wB.heap.size) pb A CA c cc g cls:=by
 obtain⟨F1,h1,h1s,F2,h2,h2s,F3,⟨A',c',e,h3⟩,h3s,_⟩:=h;obtain⟨CA',cc',e2,h4⟩:=An.is' h2 rfl;unfold Fx at e;injection e with e;injection e with e;injection e with _ e;injection e with e _;injection e with e _ _;injection e2 with e2 _ _;subst e;subst e2;exact⟨Cs.of_blk h1.2,.inl (h1s pb h1.1),(h3.nds hB).to fun b o u hb hu=>⟨hu,hb.imp (fun h=>(h3s b h).1.1) id⟩,h4.to fun b o u hb hu=>⟨hu,.inl (h2s b hb).1⟩⟩
end
end Go.Proofs.YtdpppepmkeinaaaGreatDoor
