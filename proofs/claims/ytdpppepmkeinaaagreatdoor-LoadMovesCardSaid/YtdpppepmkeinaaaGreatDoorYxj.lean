/- What is proved: a part of the walk of the program and of its plain laws; no condition beside those that each theorem names. -/
import Derived.Test.YtdpppepmkeinaaaGreatDoorYxi
import Derived.Test.YtdpppepmkeinaaaGreatDoorYt
import Derived.Test.YtdpppepmkeinaaaGreatDoorYw
import Derived.Test.YtdpppepmkeinaaaGreatDoorYx
import Derived.Test.YtdpppepmkeinaaaGreatDoorYv
import Derived.Test.YtdpppepmkeinaaaGreatDoorYa
import Derived.Test.YtdpppepmkeinaaaGreatDoorProg
namespace Go.Proofs.YtdpppepmkeinaaaGreatDoor
open Go Go.RowKit Go.Lib
open Go.Value renaming int->I,string->Q,slice->Z
open Go.IntKind renaming i64->J
open Option renaming none->O,some->F
open _root_.Go renaming World->Y
set_option linter.unusedSimpArgs false
set_option linter.unusedVariables false
set_option linter.unusedSectionVars false
section
set_option maxHeartbeats 16000000
set_option maxRecDepth 100000
theorem Cq.mem {X:Aw}:∀ {A:List Aw} {w:Y} {G:Nat->Prop},Cq A w G->X∈A->∃ Fz:Nat->Prop,X.is Fz w/\∀ b,Fz b->G b
 | Yz::r,w,G,⟨Fz,h1,h2,h3⟩,hm=>by
  rcases List.mem_cons.1 hm with rfl | hm
  ·exact⟨Fz,h1,h2⟩
  ·obtain⟨F',k1,k2⟩:=Cq.mem h3 hm;exact⟨F',k1,fun b hb=>(k2 b hb).1⟩
theorem Mem.ownR {C:Nat->Prop} {w0 w:Y} {X:Aw} {Z0:List Aw} (h:Mem C w0 (X::Z0) w):∃ Fz:Nat->Prop,X.is Fz w/\(∀ b,Fz b->b<w.heap.size/\(w0.heap.size<=b\/C b))/\Cq Z0 w (fun b=>(b<w.heap.size/\(w0.heap.size<=b\/C b))/\¬Fz b)∧
  ∀ (X':Aw) (F':Nat->Prop) (w':Y),X'.is F' w'->B4 Fz w w'->(∀ b,F' b->b<w'.heap.size/\(Fz b\/w.heap.size<=b))->Mem C w0 (X'::Z0) w':=by
 obtain⟨he,Fz,h1,h2,h3⟩:=h;refine⟨Fz,h1,h2,h3,fun X' F' w' k1 k2 k3=>⟨he.trans k2 (fun x hx hf=>?_),F',k1,fun b hb=>⟨(k3 b hb).1,(k3 b hb).2.elim (fun h=>(h2 b h).2) (fun h=>.inl (Nat.le_trans he.size h))⟩,
  h3.mono (fun b hb=>⟨⟨Nat.lt_of_lt_of_le hb.1.1 k2.size,hb.1.2⟩,fun hf=>(k3 b hf).2.elim hb.2 (fun h=>by have:=hb.1.1;omega)⟩) (fun b hb=>k2.block b hb.1.1 hb.2)⟩⟩
 rcases(h2 x hf).2 with h | h
 ·omega
 ·exact h
theorem Yi {w w3:Y} {n:Nat} {rb:Nat} {evs:List D8} {z:Option Addr×Nat} {Zz:List Aw} (hn1:n<=1000000) (h:Mem A5 w ([rdB rb z.1 evs.length z.2]++ofS evs z++Zz) w3) (hT:BU w) (hE:Ea.ErrC w) (hg:∀ x∈Bv evs,GdL x) (hn:4*E4 (Bv evs)+2<=n):
  Calls Tryz.prog 72 #[.pointer (F ⟨rb,0,O⟩)] w3 fun e w4=>∃ y:TY,e=.returned (brV (whB n (Bv evs)) y)/\Mem A5 w (whA (whB n (Bv evs)) y::star (evs.map tkP)::Zz) w4:=by
 obtain⟨_,hcap,_⟩:=h.has (X:=pr (∀ x∈evs,x.1.l.length<=x.2.2)) (by simp[ofS]);have hcap:∀ x∈evs,x.1.l.length<=x.2.2:=hcap;obtain⟨_,ho,_⟩:=h.has (X:=NQ (Z z.1 evs.length z.2) evs.length (evs.flatMap Oi)) (by simp[ofS]);have hO:EnO evs ⟨z.1,Z z.1 evs.length z.2,[],z.2,evs.length⟩:=by
  rcases ho.1.2 with ⟨e,h0⟩ | ⟨g,cap,cur,e,_,_,hle,_⟩
  ·have:evs=[]:=List.eq_nil_of_length_eq_zero h0;subst this;exact⟨Nat.zero_le _,fun h=>absurd rfl h⟩
  ·injection e with e1 e2 e3;exact⟨by rw[e3];exact hle,fun _=>⟨g,z.2,e1,by rw[e1]⟩⟩
 have h0:Mem A5 w (rdB rb z.1 evs.length z.2::NQ (Z z.1 evs.length z.2) evs.length (evs.flatMap Oi)::star (evs.map tkP)::pr (∀ x∈evs,x.1.l.length<=x.2.2)::Zz) w3:=h;have h1:Mem A5 w (E3 rb evs::star (evs.map tkP)::pr (∀ x∈evs,x.1.l.length<=x.2.2)::Zz) w3:=Mem.toEx (⟨z.1,Z z.1 evs.length z.2,[],z.2,evs.length⟩:EnQ) (Mem.toStar (B:=[_,_,_]) (h0.pr hO));have h1:Mem A5 w (E3 rb evs::star (evs.map tkP)::Zz) w3:=h1.sub (.cons_cons _ (.cons_cons _ (.cons _ (List.Sublist.refl _))));obtain⟨Fz,a1,a2,a3,a4⟩:=h1.ownR;obtain⟨F2,b1,b2,_⟩:=a3
 let Wo:I7:=⟨w,w3,Fz,hT,hE,h.1.below,fun b hb=>(a2 b hb).2.elim id (fun e=>e.elim)⟩
 have hes:H2 Wo evs:=fun x hx=>by
  obtain⟨F3,c1,c2⟩:=Cq.mem (X:=tkP x) b1 (List.mem_map.2 ⟨x,hx,rfl⟩);have hgx:=hg x.1 (List.mem_map.2 ⟨x,hx,rfl⟩);exact⟨Hu.to c1 fun b o v hb hv=>⟨hv,((b2 b (c2 b hb)).1.1),(b2 b (c2 b hb)).2⟩,hgx.len,hgx.small,hcap x hx,hgx.g⟩
 refine(Wi (Wo:=Wo) hn1 evs hes hn rb w3 (B4.refl _ _) Fz a1 (fun b hb=>(a2 b hb).1) (fun b hb=>.inr hb)).mono ?_;rintro e w4 ⟨y,he,F',hx,hF',hi⟩;exact⟨y,he,a4 _ F' w4 hi hx hF'⟩
theorem Zy (n:Nat) (hn1:n<=1000000) (S:Nat->Prop) (A:Option Addr) (c:Nat) (xs:List Sc) (w:Y) (hx:GZ w S A xs) (hl:xs.length<=1000000) (hs:∀ x∈xs,x.str.size<=100000) (hF:∀ es,DW (xs.map BM)=.ok es->4*E4 es+2<=n) (hT:BU w) (hE:Ea.ErrC w):
  Calls Tryz.prog 50 #[Z A xs.length c] w fun e w'=>∃ y:TY,e=.returned (.tuple #[.agg (AM y).toArray,I J (AZ n (xs.map BM)).2.1,I J (AZ n (xs.map BM)).2.2])/\Fr w w' [A9 (AM y) (AZ n (xs.map BM)).1]:=by
 have hO:=fun w' (h:Below w.heap.size w w')=>Af1 S A c xs w' (hx.to fun b o v hb hv=>⟨cell_below hv h,hb⟩) hl hs (hT.below h) (hE.to (B4.of_below (C:=A5) h) (fun e=>e));have hgd:∀ es,LF (xs.map BM)=.ok es->(∀ x∈es,GdL x)/\4*E4 es+2<=n:=fun es h=>by
  unfold LF at h;split at h
  ·rename_i ha;refine⟨(M0 h (fun x hx=>?_)).1,hF es h⟩;have h1:=List.all_eq_true.1 ha x hx;obtain⟨y,hy,rfl⟩:=List.mem_map.1 hx;have h2:=hs y hy;unfold Kq at h1;simp at h1;exact⟨by show y.str.data.toList.length<=100000;rw[<- Lib.size_eq];exact h2,h1⟩
  ·cases h
 have hR:AZ n (xs.map BM)=match LF (xs.map BM) with | .ok es=>Hy (whB n es) | .bad no e=>(Ei,no,e):=by
  unfold AZ;cases LF (xs.map BM) with
  | ok es=>exact Abj n es
  | bad no e=>rfl
 rw[hR];generalize LF (xs.map BM)=ro at hO hgd |-;refine V.enter _ Tryz.func50 (Mem.start (C:=A5) w) ?_;refine W ?_;refine R.new fun b2 h2=>?_
 repeat refine W ?_
 refine R.cf (fun w' h'=>hO w' h'.1.below) (fun z=>?_);cases ro with
 | bad no e=>
  unfold ofV ofM Oq
  repeat (first | refine W ?_ | refine R.new fun _ _=>?_)
  refine R.c (fun w' h'=>Ea.b_told no e w' (hE.to (B4.of_below (C:=A5) h'.1.below) (fun e=>e))) ?_
  repeat refine W ?_
  refine V.eA (fun w' h'=>?_) (hr:=.tmp rfl (.tmp rfl .nil));exact⟨GE AJ,rfl,(Mem.sel (Mem.tree0 (k:=0) (nm:=⟨#[]⟩) (x:=AJ) h'):Mem A5 w [A9 (AM (GE AJ)) Ei] w').to_fr⟩
 | ok es=>
  unfold ofV ofM ofS;refine R.know (p:=Bv z.1=es) (fun w' h'=>let ⟨_,h1,_⟩:=h'.has (X:=pr (Bv z.1=es)) (by simp);h1) (fun he=>?_);obtain⟨hg1,hg2⟩:=hgd es rfl;subst he;iterate 7 refine W ?_
  refine R.new fun b7 h7=>?_
  repeat refine W ?_
  refine R.new fun rb hrb=>?_;dsimp only
  have hok:=@Air n (Bv z.1);have hC:=fun w' h'=>Yi (w:=w) (w3:=w') (n:=n) (rb:=rb) (evs:=z.1) (z:=z.2) (Zz:=[Ut b7,Ut b2]) hn1 h' hT hE hg1 hg2;generalize whB n (Bv z.1)=res at hok hC |-;refine R.cx (ι:=TY) (v:=fun y=>brV res y) (A':=fun y=>[whA res y,star (z.1.map tkP),Ut b7,Ut b2]) (fun w' h'=>hC w' h'.sel) (fun y=>?_);cases res with
  | out=>exact R.know (p:=False) (fun w' h'=>let ⟨_,h1,_⟩:=h'.has (X:=pr False) (by simp[whA]);h1) (fun h=>h.elim)
  | bad no e=>
   unfold brV Zr Oq whA
   repeat (first | refine W ?_ | refine R.new fun _ _=>?_)
   refine R.c (fun w' h'=>Ea.b_told no e w' (hE.to (B4.of_below (C:=A5) h'.1.below) (fun e=>e))) ?_
   repeat refine W ?_
   refine V.eA (fun w' h'=>?_) (hr:=.tmp rfl (.tmp rfl .nil));exact⟨GE AJ,rfl,(Mem.sel (Mem.tree0 (k:=0) (nm:=⟨#[]⟩) (x:=AJ) h'):Mem A5 w [A9 (AM (GE AJ)) Ei] w').to_fr⟩
  | ok t r=>
   obtain rfl:=hok rfl;unfold brV Zr whA
   repeat (first | refine W ?_ | refine R.new fun _ _=>?_)
   refine R.c (fun w' h'=>Ea.b_told0 w') ?_
   repeat refine W ?_
   refine V.eA (fun w' h'=>?_) (hr:=.tmp rfl (.tmp rfl .nil));exact⟨y,rfl,(Mem.sel h':Mem A5 w [A9 (AM y) t] w').to_fr⟩
end
section
set_option maxRecDepth 100000
theorem J5 (no e:Int) (w:Y):Calls Tryz.prog 49 #[I J no,I J e] w fun e' w'=>e'=.returned (if e=0 then .nilIface else .iface 104 (.agg #[I J no,I J e]))/\Below w.heap.size w w':=by
 refine V.enter (Mem A5 w []) Tryz.func49 (Mem.start w) ?_
 repeat refine W ?_
 refine V.if (fun h=>?_) (fun h=>?_)
 ·repeat refine W ?_
  refine V.end fun w' h'=>?_;exact⟨by rw[if_neg (by simpa using h)];rfl,h'.1.below⟩
 ·repeat refine W ?_
  refine V.end fun w' h'=>?_;exact⟨by rw[if_pos (by simpa using h)];rfl,h'.1.below⟩
theorem Q9 (i n:Int) (b:Nat) (c0 c1 c2 c3 c4 c5:Value) (w:Y) (hb:Cs w b 0 [c0,c1,c2,c3,c4,c5,I J n]):
  Calls Tryz.prog 177 #[I J i,.pointer (F ⟨b,0,O⟩)] w fun e w'=>e=.returned (.bool (decide (i<0)||decide (n<=i)))/\Below w.heap.size w w':=by
 refine V.enter (Mem A5 w []) Tryz.func177 (Mem.start w) ?_
 repeat refine W ?_
 by_cases h:i<0
 ·refine R.yes 6 h ?_
  repeat refine W ?_
  refine V.end fun w' h'=>?_;exact⟨by simp[one,h],h'.1.below⟩
 ·refine R.no 6 h ?_
  repeat refine W ?_
  refine R.lo 6 hb ?_
  repeat refine W ?_
  refine V.end fun w' h'=>?_;exact⟨by simp[one,h],h'.1.below⟩
end
section
set_option maxRecDepth 100000
theorem Ahv (is:List Int) (n:Int):(!(is.any fun i=>decide (i<0)||decide (n<=i)))=is.all fun i=>decide (0<=i)&&decide (i<n):=by
 induction is with
 | nil=>rfl
 | cons x r ih=>
  rw[List.any_cons,List.all_cons,Bool.not_or,ih];congr 1;by_cases h1:x<0
  ·rw[decide_eq_true h1,decide_eq_false (show ¬0<=x by omega)];simp
  ·rw[decide_eq_false h1,decide_eq_true (show 0<=x by omega)];by_cases h2:n<=x
   ·rw[decide_eq_true h2,decide_eq_false (show ¬x<n by omega)];rfl
   ·rw[decide_eq_false h2,decide_eq_true (show x<n by omega)];rfl
theorem LJ (S:Nat->Prop) (k xk xn n:Int) (xs:ByteArray) (kv:Value) (A:Option Addr) (c:Nat) (is:List Int) (w:Y) (h:Ja w S A is) (hn:is.length<=1000000):
  Calls Tryz.prog 140 #[.agg #[I J k,I J xk,I J xn,Q xs,kv,Z A is.length c,I J n]] w fun e w'=>e=.returned (.bool (is.all fun i=>decide (0<=i)&&decide (i<n)))/\Below w.heap.size w w':=by
 refine V.enter _ Tryz.func140 (Mem.start (C:=A5) w) ?_;refine W ?_;refine R.new fun b _=>?_
 repeat refine W ?_
 refine R.c (fun w' h'=>O4 S A c is _ [.pointer (F ⟨b,0,O⟩)] (fun i=>decide (i<0)||decide (n<=i)) w' (h.to fun b o v hb hv=>⟨h'.1.cell hv (fun e=>e),hb⟩) (fun i _ w1 hw1=>Q9 i n b (I J k) (I J xk) (I J xn) (Q xs) kv (Z A is.length c) w1 ((B4.of_below (C:=A5) hw1).cs (Cs.of_blk (h'.blk (List.Mem.head _))) fun e=>e)) hn (by intro args w;simp)) ?_
 repeat refine W ?_
 refine V.end fun w' h'=>?_;exact⟨by rw[<- Ahv];rfl,h'.1.below⟩
end
section
set_option maxRecDepth 100000
theorem Ol (rt:Sc->Bool) (x:Sc) (w:Y) (hR:Bk 139 rt x w):Bk 179 (fun x=> !rt x) x w:=by
 intro w1 hw1;refine V.enter _ Tryz.func179 (Mem.start (C:=A5) w1) ?_
 repeat (first | refine W ?_ | refine R.new fun _ _=>?_)
 refine R.c (fun w' h'=>hR w' (hw1.trans (h'.1.below.mono hw1.size))) ?_
 repeat refine W ?_
 refine V.end fun w' h'=>?_;exact⟨rfl,h'.1.below⟩
theorem SA (S:Nat->Prop) (rt:Sc->Bool) (dup:Bool) (k:Int) (x:Sc) (A:Option Addr) (c:Nat) (ks:List Sc) (iv:Value) (n:Int) (w:Y) (h:GZ w S A ks) (hn:ks.length<=1000000) (hR:∀ y∈ks,Bk 139 rt y w)
  (hD:∀ w1,Below w.heap.size w w1->Calls Tryz.prog 157 #[Z A ks.length c] w1 fun e w'=>e=.returned (.bool dup)/\Below w1.heap.size w1 w'):
  Calls Tryz.prog 142 #[.agg #[I J k,I J x.kind,I J x.num,Q x.str,Z A ks.length c,iv,I J n]] w fun e w'=>e=.returned (.bool (ks.all rt&& !dup))/\Below w.heap.size w w':=by
 refine V.enter _ Tryz.func142 (Mem.start (C:=A5) w) ?_
 repeat (first | refine W ?_ | refine R.new fun _ _=>?_)
 refine R.c (fun w' h'=>Ie S A c ks _ (fun y=> !rt y) w' (h.to fun b o v hb hv=>⟨h'.1.cell hv (fun e=>e),hb⟩) (fun y hy=>(Ol rt y w (hR y hy)).to h'.1.below) hn (by intro args w;simp)) ?_
 repeat refine W ?_
 have hall:(!(ks.any fun y=> !rt y))=ks.all rt:=by rw[List.any_eq_not_all_not,Bool.not_not];congr 1;funext y;rw[Bool.not_not]
 by_cases hb:ks.all rt=true
 ·refine R.is 10 (hall.trans hb) ?_
  repeat refine W ?_
  refine R.c (fun w' h'=>hD w' h'.1.below) ?_
  repeat refine W ?_
  refine V.end fun w' h'=>?_;exact⟨by rw[hb,Bool.true_and];rfl,h'.1.below⟩
 ·have hb:ks.all rt=false:=by simpa using hb
  refine R.is 10 (hall.trans hb) ?_
  repeat refine W ?_
  refine V.end fun w' h'=>?_;exact⟨by rw[hb,Bool.false_and];rfl,h'.1.below⟩
end
section
set_option maxRecDepth 100000
structure Mh where
 kind:Int
 xk:Int
 xn:Int
 xs:ByteArray
 ka:Option Addr
 kl:Nat
 kc:Nat
 ia:Option Addr
 il:Nat
 ic:Nat
def Mh.cells (x:Mh):List Value:=[I J x.kind,I J x.xk,I J x.xn,Q x.xs,Z x.ka x.kl x.kc,Z x.ia x.il x.ic]
def Rws (w:Y) (G:Nat->Prop) (A:Option Addr) (rows:List Mh):Prop:=∀ k r,rows[k]? =F r->∃ a o,A=F ⟨a,o,O⟩/\Cs w a (o+k*6) r.cells/\¬G a
def Zu (rows:List Mh):List (Nat×Mh):=rows.zipIdx.map fun p=>(p.2,p.1)
theorem X4 {rows:List Mh} {k:Nat} {r:Mh} (h:rows[k]? =F r):(Zu rows)[k]? =F (k,r):=by simp[Zu,h]
theorem Q7 {rows:List Mh}:(Zu rows).length=rows.length:=by simp[Zu]
theorem Nv {α:Type} {l:List α} {k:Nat} {x:α} (h:l[k]? =F x):l.take k++[x]=l.take (k+1):=by
 obtain⟨h1,h2⟩:=List.getElem?_eq_some_iff.1 h;rw[List.take_succ_eq_append_getElem h1,h2]
theorem Ait (gb:Nat) (root:Int) (A:Option Addr) (c:Nat) (rows:List Mh) (hn:rows.length<=1000000):Jl Tryz.prog 96 #[.pointer (F ⟨gb,0,O⟩)] (fun(x:Nat×Mh)=>[I J x.1,.agg (x.2.cells++[Value.int .i64 rows.length]).toArray]) (fun _=>[]) (fun _=>[blk gb [I J root,Z A rows.length c] 26])
  (fun pre x=>(Zu rows)[pre.length]? =F x) (fun xs=>xs=Zu rows) (fun w G=>Rws w G A rows):=by
 refine Jl.of fun l Jz Jx w G hSt hG hY hM=>?_;refine V.enter _ Tryz.func96 hM ?_
 repeat refine W ?_
 refine V.loop (·<=rows.length) (fun k=>Mem G w [blk gb [I J root,Z A rows.length c] 26,Jz ((Zu rows).take k)]) (fun k=>[(8,I J k),(7,I J rows.length),(6,Z A rows.length c),(0,.func (.yield l) #[] #[]),(1,.pointer (F ⟨gb,0,O⟩))]) (rows.length - ·) 0 (by omega) (fun w h=>h) ⟨rfl,rfl,rfl,rfl,rfl,trivial⟩ ?_;intro k hk
 repeat refine W ?_
 refine V.ifp (fun h=>?_) (fun h=>?_)
 ·have hkr:k<rows.length:=by omega
  obtain⟨r,hr⟩:∃ r,rows[k]? =F r:=⟨_,List.getElem?_eq_getElem hkr⟩
  obtain⟨a,o,rfl,hc,hna⟩:=hSt k r hr;have hi:=X4 hr;have hl:((Zu rows).take k).length=k:=by rw[List.length_take,Q7];omega
  repeat refine W ?_
  refine R.ix hkr ?_;refine R.lo 0 hc ?_ hna;refine R.new fun b hb=>?_
  repeat refine W ?_
  refine R.y (hY _ (k,r) (by rw[hl];exact hi)) ?_ ?_
  ·rw[Nv hi]
   repeat refine W ?_
   exact V.again (k+1)
  ·repeat refine W ?_
   refine V.end fun w' h'=>?_;exact⟨⟨_,rfl⟩,.inr ⟨_,h'.sel⟩⟩
 ·repeat refine W ?_
  refine V.end fun w' h'=>?_;exact⟨⟨_,rfl⟩,.inl ⟨_,rfl,by rwa [List.take_of_length_le (by rw[Q7];omega)] at h'⟩⟩
theorem Yo (root:Int) (A:Option Addr) (m c:Nat) (w:Y):Calls Tryz.prog 64 #[.agg #[I J root,Z A m c]] w fun e w'=>∃ b:Nat,e=.returned (.func (.func 96) #[] #[.pointer (F ⟨b,0,O⟩)])/\Fr w w' [blk b [I J root,Z A m c] 26]:=by
 refine V.enter _ Tryz.func64 (Mem.start (C:=A5) w) ?_
 repeat refine W ?_
 refine R.new fun b hb=>?_
 repeat refine W ?_
 refine V.end fun w' h'=>?_;exact⟨b,rfl,h'.to_fr⟩
end
section
set_option maxRecDepth 100000
theorem LO (root i:Int) (A:Option Addr) (m c:Nat) (w:Y):Calls Tryz.prog 63 #[.agg #[I J root,Z A m c],I J i] w fun e w'=>e=.returned (.bool (decide (0<=i)&&decide (i<m)))/\Below w.heap.size w w':=by
 refine V.enter _ Tryz.func63 (Mem.start (C:=A5) w) ?_
 repeat (first | refine W ?_ | refine R.new fun _ _=>?_)
 by_cases h:0<=i
 ·refine R.yes 7 h ?_
  repeat refine W ?_
  refine V.end fun w' h'=>?_;exact⟨by simp[h,one],h'.1.below⟩
 ·refine R.no 7 h ?_
  repeat refine W ?_
  refine V.end fun w' h'=>?_;exact⟨by simp[h,one],h'.1.below⟩
theorem Afl {rows:List Mh} {k i:Nat} {r:Mh} (h:(Zu rows)[k]? =F (i,r)):k=i/\rows[k]? =F r:=by
 simp only[Zu,List.getElem?_map,List.getElem?_zipIdx,Option.map_map] at h;cases hk:rows[k]? with
 | none=>rw[hk] at h;cases h
 | some x=>rw[hk] at h;simp at h;obtain⟨rfl,rfl⟩:=h;exact⟨rfl,rfl⟩
theorem Cs.lt {w:Y} {b o:Nat} {v:Value} {vs:List Value} (h:Cs w b o (v::vs)):b<w.heap.size:=by
 have:=h 0 v rfl;unfold World.cell? at this;cases hk:w.heap[b]? with
 | none=>simp[hk] at this
 | some o=>exact(Gl hk)
theorem Rws.to {C G:Nat->Prop} {w w':Y} {A:Option Addr} {rows:List Mh} (h:Rws w C A rows) (hx:B4 C w w') (hG:∀ b,G b->w.heap.size<=b\/C b):Rws w' G A rows:=fun k r hr=>by
 obtain⟨a,o,e,hc,hn⟩:=h k r hr;exact⟨a,o,e,hx.cs hc hn,fun hg=>(hG a hg).elim (fun h=>by have:=hc.lt;omega) hn⟩
def wrV (i e:Int):Value:=.iface 118 (.agg #[I J i,I J e])
def Em (ok:Nat->Bool) (n:Nat):Value:=match (List.range n).find? (fun i=> !ok i) with
 | some i=>wrV i 70
 | none=>.nilIface
def Pf (ok:Nat->Bool) (rows:List Mh) (s:List (Nat×Mh)):Prop:=s=(Zu rows).take s.length/\∀ j,j<s.length->ok j=true
theorem Pf.bad {ok:Nat->Bool} {rows:List Mh} {s:List (Nat×Mh)} (h:Pf ok rows s) (hlt:s.length<rows.length) (hb:ok s.length=false):Em ok rows.length=wrV s.length 70:=by
 have:(List.range rows.length).find? (fun i=> !ok i)=F s.length:=by
  rw[List.find?_range_eq_some];exact⟨by simp[hb],List.mem_range.2 hlt,fun j hj=>by simp[h.2 j hj]⟩
 unfold Em;rw[this]
theorem Pf.next {ok:Nat->Bool} {rows:List Mh} {s:List (Nat×Mh)} (h:Pf ok rows s) {r:Mh} (hr:rows[s.length]? =F r) (hb:ok s.length=true):Pf ok rows (s++[(s.length,r)]):=by
 refine⟨?_,fun j hj=>?_⟩
 ·rw[List.length_append,List.length_singleton,<- Nv (X4 hr),<- h.1]
 ·rw[List.length_append,List.length_singleton] at hj;by_cases e:j=s.length
  ·rw[e];exact hb
  ·exact h.2 j (by omega)
theorem Pf.all {ok:Nat->Bool} {rows:List Mh} (h:Pf ok rows (Zu rows)):Em ok rows.length=.nilIface:=by
 have:(List.range rows.length).find? (fun i=> !ok i)=O:=by
  rw[List.find?_eq_none];intro j hj;simp[h.2 j (by rw[Q7];exact List.mem_range.1 hj)]
 unfold Em;rw[this]
theorem XB (root:Int) (A:Option Addr) (c:Nat) (rows:List Mh) (ok:Nat->Bool) (w:Y) (hw:Rws w A5 A rows) (hn:rows.length<=1000000)
  (hR:∀ (k:Nat) (r:Mh),rows[k]? =F r->∀ W,Below w.heap.size w W->Calls Tryz.prog 65 #[.agg (r.cells++[Value.int .i64 rows.length]).toArray] W fun e w'=>e=.returned (.bool (ok k))/\Below W.heap.size W w'):
  Calls Tryz.prog 44 #[.agg #[I J root,Z A rows.length c]] w fun e w'=>e=.returned (if 200<rows.length then wrV 0 71 else if ¬(0<=root/\root<rows.length) then wrV (-1) 70 else Em ok rows.length)/\Below w.heap.size w w':=by
 refine V.enter _ Tryz.func44 (Mem.start (C:=A5) w) ?_;refine W ?_;refine R.new fun b1 _=>?_;refine R.new fun b2 _=>?_
 repeat refine W ?_
 refine V.if (fun h=>?_) (fun h1=>?_)
 ·repeat refine W ?_
  refine V.end fun w' h'=>?_;exact⟨by rw[if_pos (by have:=of_decide_eq_true h;omega)];rfl,h'.1.below⟩
 ·repeat refine W ?_
  refine R.c (fun w' h'=>LO root root A rows.length c w') ?_
  repeat refine W ?_
  refine V.if (fun h=>?_) (fun h=>?_)
  ·repeat refine W ?_
   refine V.end fun w' h'=>?_;have h1:¬200<rows.length:=by have:=of_decide_eq_false h1;omega
   have hrt:¬(0<=root/\root<rows.length):=by simp at h;omega
   exact⟨by rw[if_neg h1,if_pos hrt];rfl,h'.1.below⟩
  ·have hrt:¬¬(0<=root/\root<rows.length):=by simp at h;omega
   repeat refine W ?_
   refine R.cf (fun w' h'=>Yo root A rows.length c w') fun gb=>?_
   repeat refine W ?_
   refine V.range (Ait gb root A c rows hn) (fun s=>[pr (Pf ok rows s),blk b2 [.nilIface] 61]) (fun co s=>[pr (co=.ret/\Em ok rows.length=wrV ((s.length - 1:Nat)) 70),blk b2 [wrV ((s.length - 1:Nat)) 70] 61])
    (fun w h=>(h.pr (p:=Pf ok rows []) ⟨rfl,fun j hj=>by cases hj⟩).sel) (fun w1 w2 G h hb hG=>hw.to (h.1.trans (C':=A5) (B4.of_below hb) (fun _ _ e=>e)) hG) (fun r pre x Wb C' T T' Rl hadm hx hC hm=>?_) (fun D xs hf=>?_) (fun D co s=>?_)
   ·obtain⟨i,r1⟩:=x;obtain⟨rfl,hr1⟩:=Afl hadm
    repeat refine W ?_
    refine R.new fun b3 _=>?_
    repeat refine W ?_
    refine V.mid hm ?_
    repeat refine W ?_
    refine R.c (fun w' h'=>hR _ r1 hr1 w' (hx.trans h'.1 (fun b hb hc=>(hC b hc).elim (fun h=>by omega) id)).below) ?_
    repeat refine W ?_
    refine V.if (fun h=>?_) (fun h=>?_)
    ·repeat refine W ?_
     refine V.prop (p:=Pf ok rows pre) fun hpre=>?_;refine V.pr (p:=Code.ret=.ret/\Em ok rows.length=wrV ((pre++[(pre.length,r1)]).length - 1:Nat) 70) ⟨rfl,?_⟩ ?_
     ·rw[show((pre++[(pre.length,r1)]).length - 1:Nat)=pre.length by simp];exact hpre.bad (List.getElem?_eq_some_iff.1 hr1).1 (by simpa using h)
     ·rw[show((pre++[(pre.length,r1)]).length - 1:Nat)=pre.length by simp];exact V.rr
    ·repeat refine W ?_
     refine V.prop (p:=Pf ok rows pre) fun hpre=>?_;refine V.pr (p:=Pf ok rows (pre++[(pre.length,r1)])) ?_ ?_
     ·exact hpre.next hr1 (by simpa using h)
     ·exact V.rn
   ·repeat refine W ?_
    refine V.prop (p:=Pf ok rows xs) fun hxs=>?_;refine V.end fun w' h'=>?_;have h1:¬200<rows.length:=by have:=of_decide_eq_false h1;omega
    exact⟨by rw[if_neg h1,if_neg hrt];subst hf;rw[hxs.all];rfl,h'.1.below⟩
   ·refine V.prop (p:=co=.ret/\Em ok rows.length=wrV ((s.length - 1:Nat)) 70) fun hp=>?_;obtain⟨rfl,hp⟩:=hp;refine V.end fun w' h'=>?_;have h1:¬200<rows.length:=by have:=of_decide_eq_false h1;omega
    exact⟨by rw[if_neg h1,if_neg hrt,hp];rfl,h'.1.below⟩
end
section
open Go
def Oj (n:Nat) (i:Int):Bool:=decide (0<=i)&&decide (i<n)
def G5 (rt:Sc->Bool) (n:Nat) (x:Nd):Bool:=
 if x.kind=0 then rt x.x&&decide (x.keys.length=0)&&decide (x.kids.length=0) else if x.kind=1 then decide (x.x=AJ)&&decide (x.keys.length=0)&&x.kids.all (Oj n)
 else if x.kind=2 then decide (x.x=AJ)&&decide (x.keys.length=x.kids.length)&&(x.keys.all rt&&decide x.keys.Nodup)&&x.kids.all (Oj n) else false
inductive Rch (ns:List Nd):Nat->Nat->Prop
 | refl (i:Nat):Rch ns i i
 | step {i j:Nat} {x:Nd} {k:Int} (h:ns[i]? =F x) (hk:k∈x.kids) (hr:Rch ns k.toNat j):Rch ns i j
def LeN (ns ns':List Nd):Prop:=∀ (i:Nat) (x:Nd),ns[i]? =F x->∃ x',ns'[i]? =F x'/\∀ k∈x.kids,k∈x'.kids
theorem Rch.mono {ns ns':List Nd} (h:LeN ns ns') {i j:Nat} (hr:Rch ns i j):Rch ns' i j:=by
 induction hr with
 | refl i=>exact .refl i
 | step hx hk _ ih=>obtain⟨x',h1,h2⟩:=h _ _ hx;exact .step h1 (h2 _ hk) ih
structure Ih (s:St):Prop where
 names:∀ nm v,AT nm s.names=F v->0<=v/\v<s.nodes.length
 len:s.nodes.length<=200
structure LT (rt:Sc->Bool) (s s':St) (v:Int):Prop where
 gd:Ih s'
 le:s.nodes.length<=s'.nodes.length
 old:∀ i,i<s.nodes.length->s'.nodes[i]? =s.nodes[i]?
 new:∀ i x,s.nodes.length<=i->s'.nodes[i]? =F x->G5 rt s'.nodes.length x=true
 rng:0<=v/\v<s'.nodes.length
 rch:∀ i,s.nodes.length<=i->i<s'.nodes.length->Rch s'.nodes v.toNat i
theorem K4 {sb dup:Bool} {k deep:Int} {known:Bool} {ln:Nat} (h:F7 sb dup k deep known ln=0):deep<=24/\sb=true/\dup=false/\(k=3->known=true)/\(k≠3->ln≠200):=by
 unfold F7 at h;split at h
 ·cases h
 ·split at h
  ·cases h
  ·split at h
   ·cases h
   ·split at h
    ·cases h
    ·split at h
     ·cases h
     ·rename_i h1 h2 h3 h4 h5;refine⟨by omega,by simpa using h2,by simpa using h3,fun e=>?_,fun e e'=>h5 ⟨e,e'⟩⟩;cases known with
      | true=>rfl
      | false=>exact absurd ⟨e,rfl⟩ h4
def Al (chk:Tr->Int->St->Int) (t:Tr):Gf×Int:=if (BO chk 1 t ⟨[],[]⟩).2.2=0 then (⟨0,(BO chk 1 t ⟨[],[]⟩).1.nodes⟩,0) else (G8,(BO chk 1 t ⟨[],[]⟩).2.2)
end
section
set_option maxRecDepth 100000
def vwL (x:Nd) (kv iv:Value) (n:Int):List Value:=[I J x.kind,I J x.x.kind,I J x.x.num,Q x.x.str,kv,iv,I J n]
theorem LB (x:Nd) (A B:Option Addr) (kl kc il ic:Nat) (n:Int) (w:Y):
  Calls Tryz.prog 141 #[.agg (vwL x (Z A kl kc) (Z B il ic) n).toArray] w fun e w'=>e=.returned (.bool (decide (kl=il)))/\Below w.heap.size w w':=by
 refine V.enter _ Tryz.func141 (Mem.start (C:=A5) w) ?_
 repeat (first | refine W ?_ | refine R.new fun _ _=>?_)
 refine V.end fun w' h'=>?_;exact⟨by rw[<- OH];rfl,h'.1.below⟩
theorem Z2 (rt:Sc->Bool) (x:Nd) (A B:Option Addr) (kl kc il ic:Nat) (n:Int) (w:Y) (hR:Bk 139 rt x.x w):
  Calls Tryz.prog 97 #[.agg (vwL x (Z A kl kc) (Z B il ic) n).toArray] w fun e w'=>e=.returned (.bool (Nw rt x.x kl il))/\Below w.heap.size w w':=by
 refine V.enter _ Tryz.func97 (Mem.start (C:=A5) w) ?_
 repeat (first | refine W ?_ | refine R.new fun _ _=>?_)
 refine R.c (fun w' h'=>hR w' h'.1.below) ?_
 repeat refine W ?_
 refine R.bs fun b hb=>?_;refine R.c (fun w' h'=>Jt b 0 3 [rt x.x,(kl:Int)==0,(il:Int)==0] w' (Cs.of_blk (h'.blk (List.Mem.head _))) (by simp)) ?_
 repeat refine W ?_
 refine V.end fun w' h'=>?_;exact⟨by rw[Xk,show((kl:Int)==0)=decide (kl=0) from OH kl 0,show((il:Int)==0)=decide (il=0) from OH il 0];rfl,h'.1.below⟩
theorem Aa2 (S:Nat->Prop) (x:Nd) (A B:Option Addr) (kl kc ic:Nat) (n:Nat) (w:Y) (hI:Ja w S B x.kids) (hn:x.kids.length<=1000000):
  Calls Tryz.prog 98 #[.agg (vwL x (Z A kl kc) (Z B x.kids.length ic) n).toArray] w fun e w'=>e=.returned (.bool (decide (x.x=AJ)&&decide (kl=0)&&x.kids.all (Oj n)))/\Below w.heap.size w w':=by
 refine V.enter _ Tryz.func98 (Mem.start (C:=A5) w) ?_
 repeat (first | refine W ?_ | refine R.new fun _ _=>?_)
 refine R.bin (ZV x.x AJ) ?_
 repeat refine W ?_
 refine R.c (fun w' h'=>LJ S x.kind x.x.kind x.x.num n x.x.str (Z A kl kc) B ic x.kids w' (hI.to fun b o v hb hv=>⟨h'.1.cell hv (fun e=>e),hb⟩) hn) ?_
 repeat refine W ?_
 refine R.bs fun b hb=>?_;refine R.c (fun w' h'=>Jt b 0 3 [decide (x.x=AJ),(kl:Int)==0,x.kids.all (Oj n)] w' (Cs.of_blk (h'.blk (List.Mem.head _))) (by simp)) ?_
 repeat refine W ?_
 refine V.end fun w' h'=>?_;exact⟨by rw[Xk,show((kl:Int)==0)=decide (kl=0) from OH kl 0];rfl,h'.1.below⟩
theorem Acj (S:Nat->Prop) (rt:Sc->Bool) (x:Nd) (A B:Option Addr) (kc ic:Nat) (n:Nat) (w:Y) (hK:GZ w S A x.keys) (hI:Ja w S B x.kids) (hk:x.keys.length<=1000000) (hn:x.kids.length<=1000000) (hR:∀ y∈x.keys,Bk 139 rt y w)
  (hD:∀ w1,Below w.heap.size w w1->Calls Tryz.prog 157 #[Z A x.keys.length kc] w1 fun e w'=>e=.returned (.bool (!decide x.keys.Nodup))/\Below w1.heap.size w1 w'):
  Calls Tryz.prog 99 #[.agg (vwL x (Z A x.keys.length kc) (Z B x.kids.length ic) n).toArray] w fun e w'=>e=.returned (.bool (decide (x.x=AJ)&&decide (x.keys.length=x.kids.length)&&(x.keys.all rt&&decide x.keys.Nodup)&&x.kids.all (Oj n)))/\Below w.heap.size w w':=by
 refine V.enter _ Tryz.func99 (Mem.start (C:=A5) w) ?_
 repeat (first | refine W ?_ | refine R.new fun _ _=>?_)
 refine R.bin (ZV x.x AJ) ?_
 repeat refine W ?_
 refine R.c (fun w' h'=>LB x A B x.keys.length kc x.kids.length ic n w') ?_;refine R.c (fun w' h'=>SA S rt (!decide x.keys.Nodup) x.kind x.x A kc x.keys (Z B x.kids.length ic) n w' (hK.to fun b o v hb hv=>⟨h'.1.cell hv (fun e=>e),hb⟩) hk (fun y hy=>(hR y hy).to h'.1.below) (fun w1 hw1=>hD w1 (h'.1.below.trans (hw1.mono h'.1.size)))) ?_;refine R.c (fun w' h'=>LJ S x.kind x.x.kind x.x.num n x.x.str (Z A x.keys.length kc) B ic x.kids w' (hI.to fun b o v hb hv=>⟨h'.1.cell hv (fun e=>e),hb⟩) hn) ?_;refine R.bs fun b hb=>?_;refine R.c (fun w' h'=>Jt b 0 4 [decide (x.x=AJ),decide (x.keys.length=x.kids.length),x.keys.all rt&&decide x.keys.Nodup,x.kids.all (Oj n)] w' (Cs.of_blk (h'.blk (List.Mem.head _))) (by simp)) ?_
 repeat refine W ?_
 refine V.end fun w' h'=>?_;exact⟨by rw[Ahi];rfl,h'.1.below⟩
theorem VZ (S:Nat->Prop) (rt:Sc->Bool) (x:Nd) (A B:Option Addr) (kc ic:Nat) (n:Nat) (w:Y) (hK:GZ w S A x.keys) (hI:Ja w S B x.kids) (hk:x.keys.length<=1000000) (hn:x.kids.length<=1000000) (hx:Bk 139 rt x.x w) (hR:∀ y∈x.keys,Bk 139 rt y w)
  (hD:∀ w1,Below w.heap.size w w1->Calls Tryz.prog 157 #[Z A x.keys.length kc] w1 fun e w'=>e=.returned (.bool (!decide x.keys.Nodup))/\Below w1.heap.size w1 w'):
  Calls Tryz.prog 65 #[.agg (vwL x (Z A x.keys.length kc) (Z B x.kids.length ic) n).toArray] w fun e w'=>e=.returned (.bool (G5 rt n x))/\Below w.heap.size w w':=by
 obtain⟨k,xx,ks,is⟩:=x;have hc:k=0\/k=1\/k=2\/k<0\/3<=k:=by omega
 refine V.enter _ Tryz.func65 (Mem.start (C:=A5) w) ?_
 repeat (first | refine W ?_ | refine R.new fun _ _=>?_)
 rcases hc with rfl | rfl | rfl | hk0 | hk3
 ·refine R.yes 9 (p:=(0:Int)<=0) (by decide) ?_
  repeat refine W ?_
  refine R.c (fun w' h'=>Z2 rt ⟨0,xx,ks,is⟩ A B ks.length kc is.length ic n w' (hx.to h'.1.below)) ?_
  repeat refine W ?_
  refine V.end fun w' h'=>?_;exact⟨by simp[one,G5,Nw],h'.1.below⟩
 ·refine R.yes 9 (p:=(0:Int)<=1) (by decide) ?_
  repeat refine W ?_
  refine R.c (fun w' h'=>Aa2 S ⟨1,xx,ks,is⟩ A B ks.length kc ic n w' (hI.to fun b o v hb hv=>⟨h'.1.cell hv (fun e=>e),hb⟩) hn) ?_
  repeat refine W ?_
  refine V.end fun w' h'=>?_;exact⟨by simp[one,G5],h'.1.below⟩
 ·refine R.yes 9 (p:=(0:Int)<=2) (by decide) ?_
  repeat refine W ?_
  refine R.c (fun w' h'=>Acj S rt ⟨2,xx,ks,is⟩ A B kc ic n w' (hK.to fun b o v hb hv=>⟨h'.1.cell hv (fun e=>e),hb⟩) (hI.to fun b o v hb hv=>⟨h'.1.cell hv (fun e=>e),hb⟩) hk hn (fun y hy=>(hR y hy).to h'.1.below) (fun w1 hw1=>hD w1 (h'.1.below.trans (hw1.mono h'.1.size)))) ?_
  repeat refine W ?_
  refine V.end fun w' h'=>?_;exact⟨by simp[one,G5],h'.1.below⟩
 ·refine R.no 9 (p:=0<=k) (by omega) ?_
  repeat refine W ?_
  refine V.end fun w' h'=>?_;exact⟨by simp[one,G5,show k≠0 by omega,show k≠1 by omega,show k≠2 by omega],h'.1.below⟩
 ·refine R.yes 9 (p:=0<=k) (by omega) ?_
  repeat refine W ?_
  refine R.no 15 (p:=k<3) (by omega) ?_
  repeat refine W ?_
  refine V.end fun w' h'=>?_;exact⟨by simp[one,G5,show k≠0 by omega,show k≠1 by omega,show k≠2 by omega],h'.1.below⟩
theorem Fa.rows {w:Y} {S:Nat->Prop} {A:Option Addr} {ns:List Nd} (h:Fa w S A ns):∀ m,m<=ns.length->∃ rows:List Mh,rows.length=m/\∀ k r,rows[k]? =F r->∃ x,ns[k]? =F x/\r.cells=Ps x (Z r.ka x.keys.length r.kc) (Z r.ia x.kids.length r.ic)/\GZ w S r.ka x.keys/\Ja w S r.ia x.kids/\∃ b o,A=F ⟨b,o,O⟩/\S b/\Cs w b (o+k*6) r.cells
 | 0,_=>⟨[],rfl,fun k r hk=>by cases hk⟩
 | m+1,hm=>by
  obtain⟨rows,hl,hr⟩:=Fa.rows h m (by omega);obtain⟨x,hx⟩:∃ x,ns[m]? =F x:=⟨_,List.getElem?_eq_getElem (by omega)⟩
  obtain⟨b,o,KA,kc,IA,ic,e,hb,hcs,hk,hi⟩:=h m x hx;refine⟨rows++[⟨x.kind,x.x.kind,x.x.num,x.x.str,KA,x.keys.length,kc,IA,x.kids.length,ic⟩],by simp[hl],fun k r hkr=>?_⟩;by_cases hlt:k<rows.length
  ·rw[List.getElem?_append_left hlt] at hkr;exact hr k r hkr
  ·rw[List.getElem?_append_right (by omega)] at hkr;have hk0:k - rows.length=0:=by
    cases hd:k - rows.length with
    | zero=>rfl
    | succ j=>rw[hd] at hkr;cases hkr
   rw[hk0] at hkr;cases hkr
   obtain rfl:k=m:=by omega
   exact⟨x,hx,rfl,hk,hi,b,o,e,hb,hcs⟩
def LY (rt:Sc->Bool) (g:Gf):Int×Int:=if 200<g.nodes.length then (0,71) else if ¬(0<=g.root/\g.root<g.nodes.length) then (-1,70) else
 match (List.range g.nodes.length).find? (fun i=> !G5 rt g.nodes.length (g.nodes.getD i ⟨0,AJ,[],[]⟩)) with
 | some i=>((i:Int),70)
 | none=>(0,0)
def wrG (p:Int×Int):Value:=if p.2=0 then .nilIface else wrV p.1 p.2
def ES (w:Y) (S:Nat->Prop):Prop:=∀ w1 A c ks,Below w.heap.size w w1->GZ w1 S A ks->ks.length<=1000000->Calls Tryz.prog 157 #[Z A ks.length c] w1 fun e w'=>e=.returned (.bool (!decide ks.Nodup))/\Below w1.heap.size w1 w'
def SmN (ns:List Nd):Prop:=ns.length<=1000000/\∀ x∈ns,x.keys.length<=1000000/\x.kids.length<=1000000
theorem VF (S:Nat->Prop) (rt:Sc->Bool) (g:Gf) (A:Option Addr) (c:Nat) (w:Y) (h:Fa w S A g.nodes) (hsm:SmN g.nodes) (hR:∀ x∈g.nodes,Bk 139 rt x.x w/\∀ y∈x.keys,Bk 139 rt y w) (hD:ES w S):
  Calls Tryz.prog 44 #[Fx A c g] w fun e w'=>e=.returned (wrG (LY rt g))/\Below w.heap.size w w':=by
 obtain⟨rows,hl,hr⟩:=Fa.rows h g.nodes.length Nr;have hc:=XB g.root A c rows (fun i=>G5 rt g.nodes.length (g.nodes.getD i ⟨0,AJ,[],[]⟩)) w (fun k r hk=>by
  obtain⟨x,_,_,_,_,b,o,e,_,hcs⟩:=hr k r hk;exact⟨b,o,e,hcs,fun e=>e⟩) (by rw[hl];exact hsm.1) (fun k r hk W hW=>by
  obtain⟨x,hx,hcl,Up,hi1,_⟩:=hr k r hk;have hst:=fun b o v (hb:S b) (hv:w.cell? ⟨b,o,O⟩=F v)=>(show W.cell? ⟨b,o,O⟩=F v/\S b from⟨(B4.of_below (C:=A5) hW).cell hv (fun e=>e),hb⟩)
  have hs2:=hsm.2 x (List.mem_of_getElem? hx);have:=VZ S rt x r.ka r.ia r.kc r.ic g.nodes.length W (Up.to hst) (hi1.to hst) hs2.1 hs2.2 ((hR x (List.mem_of_getElem? hx)).1.to hW) (fun y hy=>((hR x (List.mem_of_getElem? hx)).2 y hy).to hW) (fun w1 hw1=>hD w1 _ _ _ (hW.trans (hw1.mono hW.size)) ((Up.to hst).to fun b o v hb hv=>⟨(B4.of_below (C:=A5) hw1).cell hv (fun e=>e),hb⟩) hs2.1);rw[hcl,hl];have e2:g.nodes.getD k ⟨0,AJ,[],[]⟩=x:=by rw[List.getD,hx];rfl
  rw[e2];exact this)
 rw[hl] at hc;refine hc.mono ?_;rintro e w' ⟨rfl,hb⟩;refine⟨?_,hb⟩;congr 1;unfold wrG LY Em;split
 ·rfl
 ·split
  ·rfl
  ·split
   ·rename_i i hi;rw[hi];rfl
   ·rename_i hi;rw[hi];rfl
end
end Go.Proofs.YtdpppepmkeinaaaGreatDoor
