/- What is proved: a part of the walk of the program and of its plain laws; no condition beside those that each theorem names. -/
import Derived.Test.YtdpppepmkeinaaaGreatDoorYx
import Derived.Test.YtdpppepmkeinaaaGreatDoorYt
import Derived.Test.YtdpppepmkeinaaaGreatDoorYl
import Derived.Test.YtdpppepmkeinaaaGreatDoorYa
import Derived.Lib.ItoaLen
import Derived.Laws.CopyRow
import Derived.Laws.MakeOwn
namespace Go.Proofs.YtdpppepmkeinaaaGreatDoor
open Go Go.RowKit Go.Lib
open Go.Value renaming int->I,string->Q,slice->Z
open Go.IntKind renaming i64->J
open Option renaming none->O,some->F
open _root_.Go renaming World->Y
set_option linter.unusedSimpArgs false
set_option linter.unusedVariables false
set_option linter.unusedSectionVars false
section
set_option maxHeartbeats 4000000
set_option maxRecDepth 100000
theorem N5 {w w':Y} {S:Nat->Prop} (hx:AI Ao w w'):∀ b o v,S b->w.cell? ⟨b,o,O⟩=F v->w'.cell? ⟨b,o,O⟩=F v/\S b:=fun b o v hb hv=>⟨hx.cell hv (fun e=>e),hb⟩
theorem Ls (S:Nat->Prop) (A:Option Addr) (c:Nat) (ks:List Int) (w:Y) (h:GT w S A ks) (hn:ks.length<=1000000):
  Calls Tryz.prog 84 #[Z A ks.length c] w fun e w'=>∃ v,e=.returned v/\Fr w w' [Af 3 1 v ks.length (ks.map (I J))]:=by
 cases A with
 | none=>
  have:ks=[]:=by
   cases ks with
   | nil=>rfl
   | cons x r=>obtain⟨b,o,e,_⟩:=h 0 x rfl;cases e
  subst this;refine V.enter _ Tryz.func84 (Mem.start (C:=Ao) w) ?_
  repeat refine W ?_
  refine V.end fun w' h'=>?_;exact⟨_,rfl,((h'.ownNil 3 1).sel:Mem Ao w [Af 3 1 (Z O 0 0) 0 []] w').to_fr⟩
 | some ad=>
  have hcell:∀ w',AI Ao w w'->∀ j u,(ks.map (Value.int .i64))[j]? =F u->w'.cell? (ad.add j)=F u:=fun w' hx j u hj=>by
   have hj0:=hj;rw[List.getElem?_map] at hj;obtain⟨x,h1,h2⟩:=Option.map_eq_some_iff.1 hj;obtain⟨b,o,e,_,hc⟩:=h _ x h1;cases e
   exact(hx.cs (h.cs) (fun e=>e)).add j u hj0
  refine V.enter _ Tryz.func84 (Mem.start (C:=Ao) w) ?_
  repeat refine W ?_
  refine R.bo (m:=0) (sz:=1) (cs:=[]) rfl (by omega) fun b hb=>?_
  repeat refine W ?_
  refine R.app elI (k:=0) (m:=ks.length) (xs:=[]) (news:=ks.map (Value.int .i64)) (fun w h=>hcell w h.1) (by omega) (fun a c=>?_) (hl:=by simp) (h1:=QH ks)
  repeat refine W ?_
  refine V.end fun w' h'=>?_;rw[Nat.zero_add,List.nil_append] at h';exact⟨_,rfl,(h'.sel:Mem Ao w [_] w').to_fr⟩
theorem Rk (g:Gf) (c:Nat) (k:Nat) (x:Nd) (b o:Nat) (KA IA:Option Addr) (kl kc il ic:Nat) (w:Y) (hx:g.nodes[k]? =F x) (hc:Cs w b (o+k*6) (NP x (Z KA kl kc) (Z IA il ic))):
  Calls Tryz.prog 143 #[Eh (F ⟨b,o,O⟩) c g,I J k] w fun e w'=>e=.returned (.tuple #[.agg (vwL x (Z KA kl kc) (Z IA il ic) g.nodes.length).toArray,I J 0])/\Below w.heap.size w w':=by
 have hlt:=(List.getElem?_eq_some_iff.1 hx).1;refine V.enter _ Tryz.func143 (Mem.start (C:=Ao) w) ?_
 repeat (first | refine W ?_ | refine R.new fun _ _=>?_)
 refine R.c (fun w' h'=>JQ g.root k _ g.nodes.length c w') ?_;refine R.re 8 (v:=.bool (decide (0<=(k:Int))&&decide ((k:Int)<g.nodes.length))) (v':=.bool true) (by simp;omega) ?_
 repeat refine W ?_
 refine R.ix hlt ?_;refine R.lo 0 hc ?_
 repeat refine W ?_
 refine W ?_ (by exact R.st (hp:=.inr (.inl ⟨rfl,by kernel_rfl⟩)))
 repeat refine W ?_
 refine V.end (fun w' h'=>?_) (hv:=.agg rfl (by(repeat (first | exact List.Mem.head _ | apply List.Mem.tail))) (by intro w;kernel_rfl) (by intro w;simp;try rfl) (.tmp rfl .nil));exact⟨rfl,h'.1.below⟩
def Ct (p:Sc×Int):List Value:=[I J p.1.kind,I J p.1.num,Q p.1.str,I J p.2]
theorem elP:El Tryz.prog 271 274 4 40:=⟨by kernel_rfl,by kernel_rfl,by decide,by decide⟩
def psA (v:Value) (ps:List (Sc×Int)):Aj:=Af 274 4 v ps.length (ps.flatMap Ct)
def JF (n:Nat):Prop:=∀ (ps:List (Sc×Int)) (v:Value) (w:Y),ps.length=n->(ps.map (·.1)).Nodup→
 B9 Tryz.prog 181 #[v,.func (.func 182) #[] #[]] w (psA v ps) (fun _:Unit=>.tuple #[]) (fun _=>psA v (Ky ps))
theorem Ik:∀ (ps:List (Sc×Int)) (i:Nat) (p:Sc×Int),ps[i]? =F p->(ps.flatMap Ct).drop (i*4)=Ct p++(ps.drop (i+1)).flatMap Ct
 | y::r,0,p,h=>by cases h;rfl
 | y::r,i+1,p,h=>by
  have:=Ik r i p h;rw[List.flatMap_cons,show(i+1)*4=4+i*4 by omega,<- List.drop_drop];have e:(Ct y++r.flatMap Ct).drop 4=r.flatMap Ct:=List.drop_left' rfl;rw[e,this];rfl
theorem V0 {C:Nat->Prop} {w0 w:Y} {A:List Aj} (h:Mem C w0 A w):Mem C w0 (psA (Z O 0 0) []::A) w:=h.ownNil _ _
theorem YZ {α β:Type} {l:List α} {m:List β} {i:Nat} {x:α} {y:β} (h1:l[i]? =F x) (h2:m[i]? =F y):(l.zip m).take (i+1)=(l.zip m).take i++[(x,y)]:=by
 rw[List.take_add_one];congr 1;rw[List.zip,List.getElem?_zipWith,h1,h2];rfl
theorem JN (S:Nat->Prop) (x:Nd) (KA IA:Option Addr) (kc ic:Nat) (n:Nat) (w:Y) (hk:Fk w S KA x.keys) (hi:GT w S IA x.kids) (hn:x.keys.length<=1000000/\x.kids.length<=1000000) (hnd:x.keys.Nodup) (hS:JF x.keys.length):
  Calls Tryz.prog 144 #[.agg (vwL x (Z KA x.keys.length kc) (Z IA x.kids.length ic) n).toArray] w fun e w'=>∃ v,e=.returned v/\Fr w w' [psA v (Dm x)]:=by
 have hn1:=hn.1;refine V.enter _ Tryz.func144 (Mem.start (C:=Ao) w) ?_;refine W ?_;refine R.new fun b1 h1=>?_
 repeat refine W ?_
 by_cases e1:x.kind=2
 ·refine R.re 10 (v:=.bool (x.kind !=2)) (v':=.bool false) (by simp[e1]) ?_
  repeat refine W ?_
  refine R.c (fun w' h'=>JR x KA IA x.keys.length kc x.kids.length ic n w') ?_;by_cases e2:x.keys.length=x.kids.length
  ·refine R.re 12 (v:=.bool (decide (x.keys.length=x.kids.length))) (v':=.bool true) (by simp[e2]) ?_
   repeat refine W ?_
   refine V.loop (ι:=Nat×Option Addr×Nat) (fun p=>p.1<=x.keys.length) (fun p=>Mem Ao w [blk b1 (vwL x (Z KA x.keys.length kc) (Z IA x.kids.length ic) n) 125,Af 274 4 (Z p.2.1 p.1 p.2.2) p.1 (((x.keys.zip x.kids).take p.1).flatMap Ct)])
    (fun p=>[(19,I J p.1),(18,I J x.keys.length),(17,Z KA x.keys.length kc),(1,.pointer (F ⟨b1,0,O⟩)),(3,Z p.2.1 p.1 p.2.2)]) (fun p=>x.keys.length - p.1) (0,O,0) (Nat.zero_le _) (fun w' h'=>(h'.ownNil 274 4).sel) ⟨rfl,rfl,rfl,rfl,rfl,trivial⟩ ?_
   rintro⟨i,a,ac⟩ hil;dsimp only at hil
   repeat refine W ?_
   refine V.ifp (fun hlt=>?_) (fun hge=>?_)
   ·have hlt:i<x.keys.length:=by omega
    obtain⟨y,hy⟩:∃ y,x.keys[i]? =F y:=⟨_,List.getElem?_eq_getElem hlt⟩
    obtain⟨z,hz⟩:∃ z,x.kids[i]? =F z:=⟨_,List.getElem?_eq_getElem (by omega)⟩
    obtain⟨b,o,rfl,_,hc⟩:=hk i y hy;obtain⟨b2,o2,rfl,_,hc2⟩:=hi i z hz
    repeat refine W ?_
    refine R.ix hlt ?_;refine R.lo 0 hc ?_;refine R.new fun b5 h5=>?_;iterate 4 refine W ?_
    refine Zz.on (Mem Ao w [blk b1 (vwL x (Z (F ⟨b,o,O⟩) x.keys.length kc) (Z (F ⟨b2,o2,O⟩) x.kids.length ic) n) 125,blk b5 (DO y) 36]) ?_
    repeat refine Wz ?_
    refine Zz.ix (show i<x.kids.length by omega) ?_;refine Zz.lo 0 hc2 ?_
    repeat refine Wz ?_
    refine Zz.bs fun bn hbn=>?_;refine Zz.app elP (k:=i) (m:=1) (news:=Ct (y,z)) (fun w' h'=>(Cs.of_blk (h'.blk (List.Mem.head _))).add) (by omega) (fun a2 c2=>?_);refine Zz.off (fun w' h'=>h'.sel) ?_
    repeat refine W ?_
    refine V.again (i+1,a2,c2) rfl hlt (hs:=fun w' h'=>?_);rw[show Ct (y,z)=[(y,z)].flatMap Ct by simp,<- List.flatMap_append,<- YZ hy hz] at h';exact h'.sel
   ·have hi2:i=x.keys.length:=by omega
    subst hi2;have hzl:(x.keys.zip x.kids).length=x.keys.length:=by rw[List.length_zip];omega
    rw[List.take_of_length_le (by omega)];have hprs:Dm x=Ky (x.keys.zip x.kids):=by unfold Dm;rw[if_pos ⟨e1,e2⟩]
    have hsl:(Ky (x.keys.zip x.kids)).length=x.keys.length:=by rw[(Ca _).length_eq,hzl]
    repeat refine W ?_
    refine R.cw (X:=Af 274 4 (Z a x.keys.length ac) x.keys.length ((x.keys.zip x.kids).flatMap Ct)) (X':=fun _=>psA (Z a x.keys.length ac) (Ky (x.keys.zip x.kids))) (v:=fun _:Unit=>.tuple #[]) (fun w' h'=>?_) (fun _=>?_)
    ·have:=hS (x.keys.zip x.kids) (Z a x.keys.length ac) w' hzl (by rw[List.map_fst_zip (by omega)];exact hnd);unfold psA at this |-
     rwa [hzl] at this
    repeat refine W ?_
    refine V.end fun w' h'=>?_;exact⟨_,rfl,by rw[hprs];exact(h'.sel:Mem Ao w [_] w').to_fr⟩
  ·refine R.re 12 (v:=.bool (decide (x.keys.length=x.kids.length))) (v':=.bool false) (by simp[e2]) ?_
   repeat refine W ?_
   refine V.end fun w' h'=>?_;have hprs:Dm x=[]:=by unfold Dm;rw[if_neg (fun h=>e2 h.2)]
   exact⟨_,rfl,by rw[hprs];exact(V0 (h'.sel:Mem Ao w [] w')).to_fr⟩
 ·refine R.re 10 (v:=.bool (x.kind !=2)) (v':=.bool true) (by simp[e1]) ?_
  repeat refine W ?_
  refine V.end fun w' h'=>?_;have hprs:Dm x=[]:=by unfold Dm;rw[if_neg (fun h=>e1 h.1)]
  exact⟨_,rfl,by rw[hprs];exact(V0 (h'.sel:Mem Ao w [] w')).to_fr⟩
end
section
set_option maxHeartbeats 4000000
set_option maxRecDepth 100000
structure MM (w:Y) (S:Nat->Prop) (A:Option Addr) (g:Gf) (k:Nat) (x:Nd):Prop where
 nds:CL w S A g.nodes
 get:g.nodes[k]? =F x
 small:x.keys.length<=1000000/\x.kids.length<=1000000
 once:x.keys.Nodup
 sort:JF x.keys.length
theorem MM.ext {w w':Y} {S:Nat->Prop} {A:Option Addr} {g:Gf} {k:Nat} {x:Nd} (h:MM w S A g k x) (hx:AI Ao w w'):MM w' S A g k x:=⟨h.nds.to (N5 hx),h.get,h.small,h.once,h.sort⟩
theorem KV (x:Nd):(Dm x).length<=x.keys.length:=by
 unfold Dm;split
 ·rw[(Ca _).length_eq,List.length_zip];omega
 ·exact Nat.zero_le _
theorem L7 (S:Nat->Prop) (g:Gf) (A:Option Addr) (c k:Nat) (x:Nd) (w:Y) (h:MM w S A g k x):
  Calls Tryz.prog 102 #[Eh A c g,I J k] w fun e w'=>∃ v,e=.returned (.tuple #[v,I J 0])/\Fr w w' [Af 3 1 v (AB x).length ((AB x).map (I J))]:=by
 obtain⟨b,o,KA,kc,IA,ic,rfl,_,hc,hk,hi⟩:=h.nds k x h.get;have hs:=h.small;have hpl:=KV x;have hL:Mem Ao w [] w:=Mem.start w;refine V.enter _ Tryz.func102 (Mem.start (C:=Ao) w) ?_;refine W ?_;refine R.new fun b2 h2=>?_
 repeat refine W ?_
 refine R.c (fun w' h'=>Rk g c k x b o KA IA x.keys.length kc x.kids.length ic w' h.get (h'.1.cs hc (fun e=>e))) ?_
 repeat refine W ?_
 refine R.new fun b6 h6=>?_
 repeat refine W ?_
 by_cases e1:x.kind=1
 ·refine V.re 24 (v:=.bool (x.kind==1)) (v':=.bool true) (by simp[e1]) ?_
  repeat refine W ?_
  refine R.cf (fun w' h'=>Ls S IA ic x.kids w' (hi.to (N5 h'.1)) hs.2) (fun v=>?_)
  repeat refine W ?_
  refine V.end fun w' h'=>?_;have hkn:AB x=x.kids:=by unfold AB;rw[if_pos e1]
  exact⟨_,rfl,by rw[hkn];exact(h'.sel:Mem Ao w [_] w').to_fr⟩
 ·have hkn:AB x=(Dm x).map (·.2):=by unfold AB;rw[if_neg e1]
  refine V.re 24 (v:=.bool (x.kind==1)) (v':=.bool false) (by simp[e1]) ?_
  repeat refine W ?_
  refine R.cf (fun w' h'=>JN S x KA IA kc ic g.nodes.length w' (hk.to (N5 h'.1)) (hi.to (N5 h'.1)) hs h.once h.sort) (fun pv=>?_);refine R.know (p:=(pv=Z O 0 0/\(Dm x).length=0)\/∃ g c,pv=Z (F ⟨g,0,O⟩) (Dm x).length c) (fun w' h'=>AL h' (List.Mem.head _)) fun hpv=>?_;obtain⟨PA,pc,rfl⟩:∃ PA pc,pv=Z PA (Dm x).length pc:=by
   rcases hpv with ⟨e,e0⟩ | ⟨g,c,e⟩
   ·exact⟨O,0,by rw[e,e0]⟩
   ·exact⟨_,c,e⟩
  obtain⟨ps,hps⟩:∃ ps,Dm x=ps:=⟨_,rfl⟩
  rw[hps] at hkn hpl hpv |-
  repeat refine W ?_
  refine V.loop (ι:=Nat×Option Addr×Nat) (fun p=>p.1<=ps.length) (fun p=>Mem Ao w [Af 274 4 (Z PA ps.length pc) ps.length (ps.flatMap Ct),Af 3 1 (Z p.2.1 p.1 p.2.2) p.1 ((ps.take p.1).map fun q=>I J q.2)])
   (fun p=>[(33,I J p.1),(32,I J ps.length),(31,Z PA ps.length pc),(7,I J 0),(8,Z p.2.1 p.1 p.2.2)]) (fun p=>ps.length - p.1) (0,O,0) (Nat.zero_le _) (fun w' h'=>(h'.ownNil 3 1).sel) ⟨rfl,rfl,rfl,rfl,rfl,trivial⟩ ?_
  rintro⟨i,a,ac⟩ hil;dsimp only at hil
  repeat refine W ?_
  refine V.ifp (fun hlt=>?_) (fun hge=>?_)
  ·have hlt:i<ps.length:=by omega
   obtain⟨p,hp⟩:∃ p,ps[i]? =F p:=⟨_,List.getElem?_eq_getElem hlt⟩
   have hPA:∃ g,PA=F ⟨g,0,O⟩:=by
    rcases hpv with ⟨_,e0⟩ | ⟨g,c,e⟩
    ·omega
    ·cases e;exact⟨g,rfl⟩
   obtain⟨pg,rfl⟩:=hPA
   repeat refine W ?_
   refine R.ix hlt ?_;refine R.lw (v:=.agg (Ct p).toArray) ?_ ?_
   ·rw[Nat.zero_add,Ik ps i p hp];rfl
   refine R.new fun b10 h10=>?_
   repeat refine W ?_
   refine R.bs fun bn hbn=>?_;refine R.app elI (k:=i) (m:=1) (news:=[I J p.2]) (fun w' h'=>(Cs.of_blk (h'.blk (List.Mem.head _))).add) (by omega) (fun a2 c2=>?_)
   repeat refine W ?_
   refine V.again (i+1,a2,c2) rfl hlt (hs:=fun w' h'=>?_);have e:(ps.take (i+1)).map (fun q=>Value.int .i64 q.2)=(ps.take i).map (fun q=>Value.int .i64 q.2)++[I J p.2]:=by
    rw[List.take_add_one,hp];simp
   rw[<- e] at h';exact h'.sel
  ·have hi2:i=ps.length:=by omega
   subst hi2;rw[List.take_of_length_le Nr]
   repeat refine W ?_
   refine V.end fun w' h'=>?_;have h2:Mem Ao w [Af 3 1 (Z a ps.length ac) ps.length ((ps.map (·.2)).map (I J))] w':=by rw[List.map_map];exact h'.sel
   refine⟨_,rfl,?_⟩;rw[hkn,List.length_map];exact h2.to_fr
theorem Tf (S:Nat->Prop) (g:Gf) (A:Option Addr) (c k:Nat) (x:Nd) (w:Y) (h:MM w S A g k x):
  Calls Tryz.prog 234 #[Eh A c g,I J k] w fun e w'=>∃ v,e=.returned (.tuple #[v,I J 0])/\Fr w w' [Af 36 3 v (BK x).length ((BK x).flatMap DO)]:=by
 obtain⟨b,o,KA,kc,IA,ic,rfl,_,hc,hk,hi⟩:=h.nds k x h.get;have hs:=h.small;have hpl:=KV x;refine V.enter _ Tryz.func234 (Mem.start (C:=Ao) w) ?_;refine W ?_;refine R.new fun b2 h2=>?_
 repeat refine W ?_
 refine R.c (fun w' h'=>Rk g c k x b o KA IA x.keys.length kc x.kids.length ic w' h.get (h'.1.cs hc (fun e=>e))) ?_
 repeat refine W ?_
 refine R.new fun b6 h6=>?_
 repeat refine W ?_
 refine R.cf (fun w' h'=>JN S x KA IA kc ic g.nodes.length w' (hk.to (N5 h'.1)) (hi.to (N5 h'.1)) hs h.once h.sort) (fun pv=>?_);refine R.know (p:=(pv=Z O 0 0/\(Dm x).length=0)\/∃ g c,pv=Z (F ⟨g,0,O⟩) (Dm x).length c) (fun w' h'=>AL h' (List.Mem.head _)) fun hpv=>?_;obtain⟨PA,pc,rfl⟩:∃ PA pc,pv=Z PA (Dm x).length pc:=by
  rcases hpv with ⟨e,e0⟩ | ⟨g,c,e⟩
  ·exact⟨O,0,by rw[e,e0]⟩
  ·exact⟨_,c,e⟩
 obtain⟨ps,hps⟩:∃ ps,Dm x=ps:=⟨_,rfl⟩
 have hkn:BK x=ps.map (·.1):=by unfold BK;rw[hps]
 rw[hps] at hpl hpv |-
 repeat refine W ?_
 refine V.loop (ι:=Nat×Option Addr×Nat) (fun p=>p.1<=ps.length) (fun p=>Mem Ao w [Af 274 4 (Z PA ps.length pc) ps.length (ps.flatMap Ct),Af 36 3 (Z p.2.1 p.1 p.2.2) p.1 (((ps.take p.1).map (·.1)).flatMap DO)])
  (fun p=>[(20,I J p.1),(19,I J ps.length),(18,Z PA ps.length pc),(7,I J 0),(8,Z p.2.1 p.1 p.2.2)]) (fun p=>ps.length - p.1) (0,O,0) (Nat.zero_le _) (fun w' h'=>(h'.ownNil 36 3).sel) ⟨rfl,rfl,rfl,rfl,rfl,trivial⟩ ?_
 rintro⟨i,a,ac⟩ hil;dsimp only at hil
 repeat refine W ?_
 refine V.ifp (fun hlt=>?_) (fun hge=>?_)
 ·have hlt:i<ps.length:=by omega
  obtain⟨p,hp⟩:∃ p,ps[i]? =F p:=⟨_,List.getElem?_eq_getElem hlt⟩
  have hPA:∃ g,PA=F ⟨g,0,O⟩:=by
   rcases hpv with ⟨_,e0⟩ | ⟨g,c,e⟩
   ·omega
   ·cases e;exact⟨g,rfl⟩
  obtain⟨pg,rfl⟩:=hPA
  repeat refine W ?_
  refine R.ix hlt ?_;refine R.lw (v:=.agg (Ct p).toArray) ?_ ?_
  ·rw[Nat.zero_add,Ik ps i p hp];rfl
  refine R.new fun b10 h10=>?_
  repeat refine W ?_
  refine R.bs fun bn hbn=>?_;refine R.app elS (k:=i) (m:=1) (news:=DO p.1) (fun w' h'=>(Cs.of_blk (h'.blk (List.Mem.head _))).add) (by omega) (fun a2 c2=>?_)
  repeat refine W ?_
  refine V.again (i+1,a2,c2) rfl hlt (hs:=fun w' h'=>?_);have e:((ps.take (i+1)).map (·.1)).flatMap DO=((ps.take i).map (·.1)).flatMap DO++DO p.1:=by
   rw[List.take_add_one,hp];simp
  rw[<- e] at h';exact h'.sel
 ·have hi2:i=ps.length:=by omega
  subst hi2;rw[List.take_of_length_le Nr]
  repeat refine W ?_
  refine V.end fun w' h'=>?_;refine⟨_,rfl,?_⟩;rw[hkn,List.length_map];exact(h'.sel:Mem Ao w [_] w').to_fr
end
section
set_option maxRecDepth 100000
def Iu:Prop:=∀ (x y:Sc) (w:Y),Calls Tryz.prog 183 #[Di x,Di y] w fun e w'=>e=.returned (I J (CM x y))/\Below w.heap.size w w'
theorem Ip (hC:Iu) (p q:Sc×Int) (w:Y):Calls Tryz.prog 182 #[.agg (Ct p).toArray,.agg (Ct q).toArray] w fun e w'=>e=.returned (I J (CM p.1 q.1))/\Below w.heap.size w w':=by
 refine V.enter _ Tryz.func182 (Mem.start (C:=Ao) w) ?_
 repeat (first | refine W ?_ | refine R.new fun _ _=>?_)
 refine R.c (fun w' h'=>hC p.1 q.1 w') ?_
 repeat refine W ?_
 refine V.end fun w' h'=>?_;exact⟨rfl,h'.1.below⟩
theorem Ad5 (l:List (Sc×Int)):(l.flatMap Ct).length=l.length*4:=by
 induction l with
 | nil=>rfl
 | cons y r ih=>rw[List.flatMap_cons,List.length_append,ih,List.length_cons];show 4+_=_;omega
theorem Ada (A R:List (Sc×Int)) (x y:Sc×Int):AC ((A++x::R).flatMap Ct) (A.length*4) (Ct y)=F ((A++y::R).flatMap Ct):=by
 have hn:∀ l:List Value,AC l 0 []=F l:=by intro l;cases l<;>rfl
 have h0:AC (Ct x++R.flatMap Ct) 0 (Ct y)=F (Ct y++R.flatMap Ct):=by
  show(match (match (match (match AC (R.flatMap Ct) 0 [] with | some r=>F (_::r) | none=>O) with | some r=>F (_::r) | none=>O) with | some r=>F (_::r) | none=>O) with | some r=>F (_::r) | none=>O)=_;rw[hn];rfl
 rw[List.flatMap_append,List.flatMap_append,List.flatMap_cons,List.flatMap_cons];have:=CO (A.flatMap Ct) _ 0 _ _ h0
 rwa [Ad5,Nat.add_zero] at this
def Ajs (l:List (Sc×Int)):Prop:=l.Pairwise (fun a b=>CM a.1 b.1<=0)
end
section
set_option maxHeartbeats 4000000
set_option maxRecDepth 100000
def Jw (w0:Y):Prop:=∀ (n:Int) (w:Y),Below w0.heap.size w0 w-> -1000000<=n->n<=1000000->Calls Tryz.prog 95 #[I J n] w fun e w'=>e=.returned (Q ⟨(Lib.itoa n).toArray⟩)/\Below w.heap.size w w'
theorem Jw.to {w0 w1:Y} (h:Jw w0) (hb:Below w0.heap.size w0 w1):Jw w1:=fun n w hw=>h n w (hb.trans (hw.mono hb.size))
theorem UK:∀ (l:List Int),(∀ n∈l,(Lib.itoa n).length<=21)->(NQ l).length<=22*l.length
 | [],_=>Nat.le_refl _
 | n::r,h=>by
  have h1:=h n (by simp);have h2:=UK r (fun x hx=>h x (by simp[hx]));unfold NQ at h2 |-;rw[List.flatMap_cons,List.length_append,List.length_append,List.length_cons,List.length_cons,List.length_nil];omega
theorem bsz (l:List UInt8):(⟨l.toArray⟩:ByteArray).size=l.length:=by simp[ByteArray.size]
theorem Ai7 (tt:TypeId) (l m:List UInt8) (w:Y) (hl:l.length+m.length<=1000000):(binOp .add tt (Q ⟨l.toArray⟩) (Q ⟨m.toArray⟩)).run Tryz.prog w=.ok (Q ⟨(l++m).toArray⟩) w:=by
 have e:(⟨l.toArray⟩:ByteArray)++⟨m.toArray⟩=⟨(l++m).toArray⟩:=by
  apply ByteArray.ext;rw[ByteArray.data_append];simp
 show(Op.stringOp .add ⟨l.toArray⟩ ⟨m.toArray⟩).run Tryz.prog w=_;have h:=bsz l;have h2:=bsz m;simp[Op.stringOp,e,Sem.run,pure];omega
theorem WI (S:Nat->Prop) (A:Option Addr) (c:Nat) (is:List Int) (w:Y) (h:GT w S A is) (hn:is.length<=40000) (hr:∀ n∈is,0<=n/\n<=1000000) (hI:Jw w):
  Calls Tryz.prog 204 #[Z A is.length c] w fun e w'=>e=.returned (Q ⟨(NQ is).toArray⟩)/\Below w.heap.size w w':=by
 have hl:∀ n∈is,(Lib.itoa n).length<=21:=fun n hx=>Lib.itoa_length_le n (by have:=hr n hx;omega) (by have:=hr n hx;omega);refine V.enter _ Tryz.func204 (Mem.start (C:=Ao) w) ?_;refine W ?_;refine W ?_;refine W ?_;refine W ?_;refine R.new fun b3 h3=>?_;refine W ?_;refine V.pre (S':=Mem Ao w [MO b3 []]) ?_ (fun w' h'=>UB h'.sel)
 repeat refine W ?_
 refine V.loop (fun k=>k<=is.length) (fun k=>Mem Ao w [MO b3 (NQ (is.take k))]) (fun k=>[(8,I J k),(7,I J is.length),(6,Z A is.length c),(3,.pointer (F ⟨b3,0,O⟩))]) (is.length - ·) 0 (Nat.zero_le _) (fun w h=>h) ⟨rfl,rfl,rfl,rfl,trivial⟩ ?_;rintro k hk
 repeat refine W ?_
 refine V.ifp (fun hlt=>?_) (fun hge=>?_)
 ·have hlt:k<is.length:=by omega
  obtain⟨n,hx⟩:∃ n,is[k]? =F n:=⟨_,List.getElem?_eq_getElem hlt⟩
  have hmem:=List.mem_of_getElem? hx;obtain⟨b,o,rfl,_,hc⟩:=h k n hx;have htl:=UK (is.take k) (fun x hx=>hl x (List.mem_of_mem_take hx));rw[List.length_take] at htl;have hnl:=hl n hmem
  repeat refine W ?_
  refine R.ix hlt ?_;refine R.lo 0 hc ?_
  repeat refine W ?_
  refine R.c (fun w' h'=>hI n w' h'.1.below (by have:=hr n hmem;omega) (hr n hmem).2) ?_
  repeat refine W ?_
  refine R.bi (v:=Q ⟨(Lib.itoa n++[44]).toArray⟩) (fun w=>Ai7 _ _ [44] w (by rw[List.length_singleton];omega)) ?_;have hsz:=bsz (Lib.itoa n++[44]);rw[List.length_append,List.length_singleton] at hsz;refine R.cw (fun w' h'=>Abc b3 (NQ (is.take k)) ⟨(Lib.itoa n++[44]).toArray⟩ w' (by rw[hsz];omega)) (fun _=>?_)
  repeat refine W ?_
  refine V.again (k+1) rfl hlt (hs:=fun w' h'=>?_);have e:NQ (is.take (k+1))=NQ (is.take k)++(Lib.itoa n++[44]):=by
   unfold NQ;rw[List.take_add_one,hx];simp
  rw[e];exact h'.sel
 ·have hi2:k=is.length:=by omega
  subst hi2;rw[List.take_length]
  repeat refine W ?_
  refine R.cx (v:=fun _:Unit=>Q ⟨(NQ is).toArray⟩) (A':=fun _=>[]) (fun w' h'=>(ZN h' Pk.hd).mono fun e w'' ⟨he,hm⟩=>⟨(),he,hm⟩) (fun _=>?_)
  repeat refine W ?_
  refine V.end fun w' h'=>?_;exact⟨rfl,h'.1.below⟩
end
section
set_option maxHeartbeats 4000000
set_option maxRecDepth 100000
def Jo (tx:Sc->List UInt8) (ks:List Sc) (w0:Y):Prop:=∀ x∈ks,∀ w,Below w0.heap.size w0 w->Calls Tryz.prog 235 #[Di x] w fun e w'=>∃ c:Int,e=.returned (.tuple #[Q ⟨(tx x).toArray⟩,I J c])/\Below w.heap.size w w'
theorem Jo.to {tx:Sc->List UInt8} {ks:List Sc} {w0 w1:Y} (h:Jo tx ks w0) (hb:Below w0.heap.size w0 w1):Jo tx ks w1:=fun x hx w hw=>h x hx w (hb.trans (hw.mono hb.size))
def MR (tx:Sc->List UInt8) (ks:List Sc):List UInt8:=ks.flatMap fun k=>tx k++[44]
theorem Aa2 (tx:Sc->List UInt8) (ks:List Sc) (k:Nat) (x:Sc) (h:ks[k]? =F x):MR tx (ks.take (k+1))=MR tx (ks.take k)++(tx x++[44]):=by
 unfold MR;rw[List.take_add_one,h];simp
theorem Ahi (tx:Sc->List UInt8) (ks:List Sc) (k:Nat):(MR tx (ks.take k)).length<=(MR tx ks).length:=by
 have:MR tx ks=MR tx (ks.take k)++MR tx (ks.drop k):=by unfold MR;rw[<- List.flatMap_append,List.take_append_drop]
 rw[this,List.length_append];omega
theorem RE:∀ (ks:List Sc) (i:Nat) (p:Sc),ks[i]? =F p->(ks.flatMap DO).drop (i*3)=DO p++(ks.drop (i+1)).flatMap DO
 | y::r,0,p,h=>by cases h;rfl
 | y::r,i+1,p,h=>by
  have:=RE r i p h;rw[List.flatMap_cons,show(i+1)*3=3+i*3 by omega,<- List.drop_drop];have e:(DO y++r.flatMap DO).drop 3=r.flatMap DO:=List.drop_left' rfl;rw[e,this];rfl
theorem MM.below {w w':Y} {S:Nat->Prop} {A:Option Addr} {g:Gf} {k:Nat} {x:Nd} (h:MM w S A g k x) (hb:Below w.heap.size w w'):MM w' S A g k x:=h.ext (AI.of_below hb)
theorem Xs (tx:Sc->List UInt8) (S:Nat->Prop) (g:Gf) (A:Option Addr) (c k pb:Nat) (x:Nd) (cv:Value) (w:Y) (h:MM w S A g k x) (hpb:Cs w pb 0 [I J g.root,Z A g.nodes.length c,cv])
  (hT:Jo tx (BK x) w) (hm:(MR tx (BK x)).length<=900000):
  Calls Tryz.prog 203 #[.pointer (F ⟨pb,0,O⟩),I J k] w fun e w'=>e=.returned (Q ⟨(MR tx (BK x)).toArray⟩)/\Below w.heap.size w w':=by
 have hpl:=KV x;have hs:=h.small;refine V.enter _ Tryz.func203 (Mem.start (C:=Ao) w) ?_
 repeat refine W ?_
 refine R.lo 0 hpb ?_;refine W ?_;refine R.cf (fun w' h'=>Tf S g A c k x w' (h.ext h'.1)) (fun v=>?_);obtain⟨ks,hks⟩:∃ ks,BK x=ks:=⟨_,rfl⟩
 have hkl:ks.length<=1000000:=by rw[<- hks];unfold BK;rw[List.length_map];omega
 rw[hks] at hT hm |-;refine R.know (p:=(v=Z O 0 0/\ks.length=0)\/∃ g c,v=Z (F ⟨g,0,O⟩) ks.length c) (fun w' h'=>AL h' (List.Mem.head _)) fun hpv=>?_;obtain⟨PA,pc,rfl⟩:∃ PA pc,v=Z PA ks.length pc:=by
  rcases hpv with ⟨e,e0⟩ | ⟨g,c,e⟩
  ·exact⟨O,0,by rw[e,e0]⟩
  ·exact⟨_,c,e⟩
 iterate 6 refine W ?_
 refine W ?_;refine R.new fun b7 h7=>?_;refine W ?_;refine V.pre (S':=Mem Ao w [MO b7 [],Af 36 3 (Z PA ks.length pc) ks.length (ks.flatMap DO)]) ?_ (fun w' h'=>UB h'.sel)
 repeat refine W ?_
 refine V.loop (fun i=>i<=ks.length) (fun i=>Mem Ao w [MO b7 (MR tx (ks.take i)),Af 36 3 (Z PA ks.length pc) ks.length (ks.flatMap DO)]) (fun i=>[(23,I J i),(22,I J ks.length),(21,Z PA ks.length pc),(7,.pointer (F ⟨b7,0,O⟩))]) (ks.length - ·) 0 (Nat.zero_le _) (fun w h=>h) ⟨rfl,rfl,rfl,rfl,trivial⟩ ?_;rintro i hi
 repeat refine W ?_
 refine V.ifp (fun hlt=>?_) (fun hge=>?_)
 ·have hlt:i<ks.length:=by omega
  obtain⟨y,hy⟩:∃ y,ks[i]? =F y:=⟨_,List.getElem?_eq_getElem hlt⟩
  have hPA:∃ g,PA=F ⟨g,0,O⟩:=by
   rcases hpv with ⟨_,e0⟩ | ⟨g,c,e⟩
   ·omega
   ·cases e;exact⟨g,rfl⟩
  obtain⟨pg,rfl⟩:=hPA;have hle:=Ahi tx ks (i+1);have hst:=Aa2 tx ks i y hy;have hle2:=congrArg List.length hst;rw[List.length_append,List.length_append,List.length_singleton] at hle2
  repeat refine W ?_
  refine R.ix hlt ?_;refine R.lw (v:=Di y) ?_ ?_
  ·rw[Nat.zero_add,RE ks i y hy];rfl
  refine R.new fun b9 h9=>?_
  repeat refine W ?_
  refine R.cf (v:=fun c:Int=>.tuple #[Q ⟨(tx y).toArray⟩,I J c]) (X:=fun _=>[]) (fun w' h'=>(hT y (List.mem_of_getElem? hy) w' h'.1.below).mono fun e w'' ⟨c,he,hb⟩=>⟨c,he,hb,trivial⟩) (fun c=>?_)
  repeat refine W ?_
  refine R.bi (v:=Q ⟨(tx y++[44]).toArray⟩) (fun w=>Ai7 _ _ [44] w (by rw[List.length_singleton];omega)) ?_;have hsz:=bsz (tx y++[44]);rw[List.length_append,List.length_singleton] at hsz;refine R.cw (fun w' h'=>Abc b7 (MR tx (ks.take i)) ⟨(tx y++[44]).toArray⟩ w' (by rw[hsz];omega)) (fun _=>?_)
  repeat refine W ?_
  refine V.again (i+1) rfl hlt (hs:=fun w' h'=>?_);rw[hst];exact h'.sel
 ·have hi2:i=ks.length:=by omega
  subst hi2;rw[List.take_length]
  repeat refine W ?_
  refine R.cx (v:=fun _:Unit=>Q ⟨(MR tx ks).toArray⟩) (A':=fun _=>[]) (fun w' h'=>(ZN h' Pk.hd).mono fun e w'' ⟨he,hm⟩=>⟨(),he,hm⟩) (fun _=>?_)
  repeat refine W ?_
  refine V.end fun w' h'=>?_;exact⟨rfl,h'.1.below⟩
end
section
set_option maxHeartbeats 8000000
set_option maxRecDepth 100000
theorem OW (A R:List Int) (x y:Int):AC ((A++x::R).map (Value.int .i64)) A.length [I J y]=F ((A++y::R).map (Value.int .i64)):=by
 have hn:∀ l:List Value,AC l 0 []=F l:=by intro l;cases l<;>rfl
 have h0:AC (Value.int .i64 x::R.map (I J)) 0 [I J y]=F (Value.int .i64 y::R.map (I J)):=by
  show(match AC (R.map (Value.int .i64)) 0 [] with | some r=>F (_::r) | none=>O)=_;rw[hn]
 rw[List.map_append,List.map_append,List.map_cons,List.map_cons];have:=CO (A.map (Value.int .i64)) _ 0 _ _ h0
 rwa [List.length_map,Nat.add_zero] at this
theorem ZP (A R:List Int) (x:Int):((A++x::R).map (Value.int .i64)).drop A.length=I J x::R.map (I J):=by
 rw[List.map_append,List.map_cons];have:(A.map (Value.int .i64)).length=A.length:=List.length_map ..;rw[<- this,List.drop_left]
def Ajj (x:Nd) (ks cs:List UInt8):List Value:=[I J x.kind,I J x.x.kind,I J x.x.num,Q x.x.str,Q ⟨ks.toArray⟩,Q ⟨cs.toArray⟩]
def DM (cls:List Int) (is:List Int):List Int:=is.map fun k=>cls.getD k.toNat 0
theorem Xr (tx:Sc->List UInt8) (S S2:Nat->Prop) (g:Gf) (A CA:Option Addr) (c cc k pb:Nat) (x:Nd) (cls:List Int) (w:Y) (h:MM w S A g k x) (hpb:Cs w pb 0 [I J g.root,Z A g.nodes.length c,Z CA cls.length cc])
  (hC:GT w S2 CA cls) (hcr:∀ n∈cls,0<=n/\n<=1000000) (hkr:∀ n∈AB x,0<=n/\n<cls.length) (hkn:(AB x).length<=40000) (hT:Jo tx (BK x) w) (hm:(MR tx (BK x)).length<=900000) (hI:Jw w):
  Calls Tryz.prog 160 #[.pointer (F ⟨pb,0,O⟩),I J k] w fun e w'=>e=.returned (.agg (Ajj x (MR tx (BK x)) (NQ (DM cls (AB x)))).toArray)/\Below w.heap.size w w':=by
 obtain⟨b,o,KA,kc,IA,ic,rfl,hSb,hc,hk,hi⟩:=h.nds k x h.get;have hlt:=(List.getElem?_eq_some_iff.1 h.get).1;obtain⟨ks,hks⟩:∃ ks,AB x=ks:=⟨_,rfl⟩
 have hKd:=L7 S g (F ⟨b,o,O⟩) c k x;have hK:=Xs tx S g (F ⟨b,o,O⟩) c k pb x (Z CA cls.length cc);rw[hks] at hkr hkn hKd |-;refine V.enter _ Tryz.func160 (Mem.start (C:=Ao) w) ?_;refine W ?_;refine R.new fun b4 h4=>?_
 repeat refine W ?_
 refine R.lo 0 hpb ?_;refine W ?_;refine R.cf (fun w' h'=>hKd w' (h.ext h'.1)) (fun v=>?_);refine R.know (p:=(v=Z O 0 0/\ks.length=0)\/∃ g c,v=Z (F ⟨g,0,O⟩) ks.length c) (fun w' h'=>AL h' (List.Mem.head _)) fun hpv=>?_;obtain⟨PA,pc,rfl⟩:∃ PA pc,v=Z PA ks.length pc:=by
  rcases hpv with ⟨e,e0⟩ | ⟨g,c,e⟩
  ·exact⟨O,0,by rw[e,e0]⟩
  ·exact⟨_,c,e⟩
 repeat refine W ?_
 refine V.loop (fun i=>i<=ks.length) (fun i=>Mem Ao w [Af 3 1 (Z PA ks.length pc) ks.length ((DM cls (ks.take i)++ks.drop i).map (I J)),blk b4 [I J 0,I J 0,I J 0,Q .empty,Q .empty,Q .empty] 255]) (fun i=>[(20,I J i),(19,I J ks.length),(18,Z PA ks.length pc),(5,Z PA ks.length pc),(0,.pointer (F ⟨pb,0,O⟩)),(1,I J k),(4,.pointer (F ⟨b4,0,O⟩))]) (ks.length - ·) 0 (Nat.zero_le _) (fun w h=>h.sel) ⟨rfl,rfl,rfl,rfl,rfl,rfl,rfl,trivial⟩ ?_;rintro i hi2
 repeat refine W ?_
 refine V.ifp (fun hlt=>?_) (fun hge=>?_)
 ·have hlt2:i<ks.length:=by omega
  obtain⟨n,hn⟩:∃ n,ks[i]? =F n:=⟨_,List.getElem?_eq_getElem hlt2⟩
  obtain⟨hn0,hn1⟩:=hkr n (List.mem_of_getElem? hn);obtain⟨y,hy⟩:∃ y,cls[n.toNat]? =F y:=⟨_,List.getElem?_eq_getElem (by omega)⟩
  have hyd:cls.getD n.toNat 0=y:=by rw[List.getD,hy];rfl
  obtain⟨cb,co,rfl,_,hcc⟩:=hC n.toNat y hy;have hPA:∃ g,PA=F ⟨g,0,O⟩:=by
   rcases hpv with ⟨_,e0⟩ | ⟨g,c,e⟩
   ·omega
   ·cases e;exact⟨g,rfl⟩
  obtain⟨pg,rfl⟩:=hPA;have hdr:ks.drop i=n::ks.drop (i+1):=by
   rw[List.drop_eq_getElem_cons hlt2];rw[List.getElem?_eq_getElem hlt2] at hn;cases hn;rfl
  have htk:DM cls (ks.take (i+1))=DM cls (ks.take i)++[y]:=by
   unfold DM;rw[List.take_add_one,hn,List.map_append];congr 1;show[cls.getD n.toNat 0]=[y];rw[hyd]
  have hcl:(DM cls (ks.take i)).length=i:=by unfold DM;rw[List.length_map,List.length_take];omega
  have hat:=ZP (DM cls (ks.take i)) (ks.drop (i+1)) n;have hst:=OW (DM cls (ks.take i)) (ks.drop (i+1)) n y;rw[hcl] at hat hst;rw[hdr]
  repeat refine W ?_
  refine R.ix hlt2 ?_;refine R.lw (v:=I J n) ?_ ?_
  ·rw[Nat.zero_add,Nat.mul_one,hat];rfl
  repeat refine W ?_
  refine R.lo 2 hpb ?_
  repeat refine W ?_
  refine R.re 31 (v:=I J n) (v':=I J (n.toNat:Int)) (by congr 1;omega) ?_;refine R.ix (show n.toNat<cls.length by omega) ?_;refine R.lo 0 hcc ?_;refine R.ix hlt2 ?_;refine R.sw (v:=I J y) (xs':=(DM cls (ks.take i)++y::ks.drop (i+1)).map (I J)) ?_ ?_
  ·rw[Nat.zero_add,Nat.mul_one];exact hst
  repeat refine W ?_
  refine V.again (i+1) rfl hlt2 (hs:=fun w' h'=>?_);rw[htk,List.append_assoc];exact h'.sel
 ·have hi3:i=ks.length:=by omega
  subst hi3;rw[List.take_length,List.drop_length,List.append_nil];have hcl:(DM cls ks).length=ks.length:=by unfold DM;rw[List.length_map]
  have hcm:∀ n∈DM cls ks,0<=n/\n<=1000000:=fun n hn=>by
   unfold DM at hn;obtain⟨z,hz,rfl⟩:=List.mem_map.1 hn;have:=hkr z hz;rw[List.getD,List.getElem?_eq_getElem (by omega)];exact hcr _ (List.getElem_mem _)
  repeat refine W ?_
  refine R.lo 1 hpb ?_
  repeat refine W ?_
  refine R.ix hlt ?_
  repeat refine W ?_
  refine R.lo 0 hc ?_
  repeat refine W ?_
  refine R.lo 1 hpb ?_
  repeat refine W ?_
  refine R.ix hlt ?_
  repeat refine W ?_
  refine R.lo 1 hc ?_
  repeat refine W ?_
  refine R.c (fun w' h'=>hK w' (h.ext h'.1) (h'.1.cs hpb fun e=>e) (hT.to h'.1.below) hm) ?_
  repeat refine W ?_
  refine R.c (v:=Q ⟨(NQ (DM cls ks)).toArray⟩) (fun w' h'=>?_) ?_
  ·obtain⟨Fz,h1,_⟩:=h'.has (List.Mem.head _);rw[<- hcl] at h1;obtain⟨A',c',e,hv⟩:=Af.is' h1 rfl;rw[<- hcl,e];exact WI Fz A' c' (DM cls ks) w' hv (by rw[hcl];exact hkn) hcm (hI.to h'.1.below)
  repeat refine W ?_
  refine W ?_ (by exact R.st (hp:=.inr (.inl ⟨rfl,by kernel_rfl⟩)))
  repeat refine W ?_
  refine V.end (fun w' h'=>?_) (hv:=.agg rfl (by(repeat (first | exact List.Mem.head _ | apply List.Mem.tail))) (by intro w;kernel_rfl) (by intro w;simp;try rfl) .nil);exact⟨rfl,h'.1.below⟩
end
section
set_option maxHeartbeats 4000000
set_option maxRecDepth 100000
structure Y0 (wB:Y) (tx:Sc->List UInt8) (ns:List Nd) (m:Nat):Prop where
 len:ns.length<=1000
 small:∀ x∈ns,x.keys.length<=1000000/\x.kids.length<=40000
 once:∀ x∈ns,x.keys.Nodup
 sort:∀ x∈ns,JF x.keys.length
 text:∀ x∈ns,Jo tx (BK x) wB
 fit:∀ x∈ns,(MR tx (BK x)).length<=900000
 kids:∀ x∈ns,∀ n∈x.kids,0<=n/\n<m
 itoa:Jw wB
def Ny (w:Y) (S:Nat->Prop) (pb:Nat) (A CA:Option Addr) (c cc:Nat) (g:Gf) (cls:List Int):Prop:=
 Cs w pb 0 [I J g.root,Z A g.nodes.length c,Z CA cls.length cc]/\S pb/\CL w S A g.nodes/\GT w S CA cls
theorem Ny.to {w w':Y} {S S':Nat->Prop} {pb:Nat} {A CA:Option Addr} {c cc:Nat} {g:Gf} {cls:List Int} (h:Ny w S pb A CA c cc g cls) (hc:∀ b o v,S b->w.cell? ⟨b,o,O⟩=F v->w'.cell? ⟨b,o,O⟩=F v/\S' b):Ny w' S' pb A CA c cc g cls:=
 ⟨fun i v hv=>(hc pb _ v h.2.1 (h.1 i v hv)).1,(hc pb _ _ h.2.1 (h.1 0 _ rfl)).2,h.2.2.1.to hc,h.2.2.2.to hc⟩
def Ag6 (tx:Sc->List UInt8) (cls:List Int) (x:Nd):List Value:=Ajj x (MR tx (BK x)) (NQ (DM cls (AB x)))
def DQ (tx:Sc->List UInt8) (cls:List Int) (ns:List Nd):List (Nat×Nd):=ns.zipIdx.map fun p=>(p.2,p.1)
theorem SH {tx:Sc->List UInt8} {cls:List Int} {ns:List Nd} {k:Nat} {x:Nd} (h:ns[k]? =F x):(DQ tx cls ns)[k]? =F (k,x):=by simp[DQ,h]
theorem Hy {tx:Sc->List UInt8} {cls:List Int} {ns:List Nd}:(DQ tx cls ns).length=ns.length:=by simp[DQ]
theorem N2 (x:Nd):(AB x).length<=max x.keys.length x.kids.length/\(x.kids.length<=40000->(AB x).length<=40000):=by
 unfold AB Dm;split
 ·exact⟨by omega,id⟩
 ·split
  ·rw[List.length_map,(Ca _).length_eq,List.length_zip];omega
  ·simp
theorem Ahy (wB:Y) (tx:Sc->List UInt8) (gb pb:Nat) (A CA:Option Addr) (c cc:Nat) (g:Gf) (cls:List Int) (hP:Y0 wB tx g.nodes cls.length) (hcr:∀ n∈cls,0<=n/\n<=1000000):
  FH Tryz.prog 159 #[.pointer (F ⟨gb,0,O⟩)] (fun(x:Nat×Nd)=>[I J x.1,.agg (Ag6 tx cls x.2).toArray]) (fun _=>[]) (fun _=>[blk gb [.pointer (F ⟨pb,0,O⟩)] 112])
   (fun pre x=>(DQ tx cls g.nodes)[pre.length]? =F x) (fun xs=>xs=DQ tx cls g.nodes) (fun w G=>Below wB.heap.size wB w/\FG wB G/\Ny w (fun b=>¬G b) pb A CA c cc g cls):=by
 refine FH.of fun l Jz Jx w G hSt hG hY hM=>?_;obtain⟨hB,hQ,hPv⟩:=hSt;obtain⟨hpb,hpn,hns,hci⟩:=id hPv;refine V.enter _ Tryz.func159 hM ?_
 repeat refine W ?_
 refine R.lo 1 hpb ?_ hpn
 repeat refine W ?_
 have hlen:=hP.len;refine V.loop (·<=g.nodes.length) (fun k=>Mem G w [blk gb [.pointer (F ⟨pb,0,O⟩)] 112,Jz ((DQ tx cls g.nodes).take k)]) (fun k=>[(10,I J k),(9,I J g.nodes.length),(0,.func (.yield l) #[] #[]),(1,.pointer (F ⟨gb,0,O⟩))]) (g.nodes.length - ·) 0 (by omega) (fun w h=>h) ⟨rfl,rfl,rfl,rfl,trivial⟩ ?_;intro k hk
 repeat refine W ?_
 refine V.ifp (fun h=>?_) (fun h=>?_)
 ·have hkr:k<g.nodes.length:=by omega
  obtain⟨x,hx⟩:∃ x,g.nodes[k]? =F x:=⟨_,List.getElem?_eq_getElem hkr⟩
  have hxm:=List.mem_of_getElem? hx;have hi:=SH (tx:=tx) (cls:=cls) hx;have hl:((DQ tx cls g.nodes).take k).length=k:=by rw[List.length_take,Hy];omega
  have hsx:=hP.small x hxm
  repeat refine W ?_
  refine R.c (v:=.agg (Ag6 tx cls x).toArray) (fun w' h'=>?_) ?_
  ·have hst:∀ b o v,¬G b->w.cell? ⟨b,o,O⟩=F v->w'.cell? ⟨b,o,O⟩=F v/\¬G b:=fun b o v hb hv=>⟨h'.1.cell hv hb,hb⟩
   have hBw:=AI.belowB hB hQ h'.1;obtain⟨p1,p2,p3,p4⟩:=hPv.to hst;exact Xr tx _ _ g A CA c cc k pb x cls w' ⟨p3,hx,⟨hsx.1,by omega⟩,hP.once x hxm,hP.sort x hxm⟩ p1 p4 hcr (fun n hn=>hP.kids x hxm n (CN hn)) ((N2 x).2 hsx.2) ((hP.text x hxm).to hBw) (hP.fit x hxm) (hP.itoa.to hBw)
  refine R.y (hY _ (k,x) (by rw[hl];exact hi)) ?_ ?_
  ·rw[Lj hi]
   repeat refine W ?_
   exact V.again (k+1)
  ·repeat refine W ?_
   refine V.end fun w' h'=>?_;exact⟨⟨_,rfl⟩,.inr ⟨_,h'.sel⟩⟩
 ·repeat refine W ?_
  refine V.end fun w' h'=>?_;exact⟨⟨_,rfl⟩,.inl ⟨_,rfl,by rwa [List.take_of_length_le (by rw[Hy];omega)] at h'⟩⟩
theorem Xo (pb:Nat) (w:Y):Calls Tryz.prog 120 #[.pointer (F ⟨pb,0,O⟩)] w fun e w'=>∃ b:Nat,e=.returned (.func (.func 159) #[] #[.pointer (F ⟨b,0,O⟩)])/\Fr w w' [blk b [.pointer (F ⟨pb,0,O⟩)] 112]:=by
 refine V.enter _ Tryz.func120 (Mem.start (C:=Ao) w) ?_
 repeat refine W ?_
 refine R.new fun b hb=>?_
 repeat refine W ?_
 refine V.end fun w' h'=>?_;exact⟨b,rfl,h'.to_fr⟩
end
section
set_option maxHeartbeats 2000000
set_option maxRecDepth 100000
def Fp (s:Say):Value:=.agg #[I J s.1,I J s.2.1.kind,I J s.2.1.num,Q s.2.1.str,Q ⟨s.2.2.1.toArray⟩,Q ⟨s.2.2.2.toArray⟩]
theorem Adf (x y:Say):(x.1==y.1&&((x.2.1.kind==y.2.1.kind&&(x.2.1.num==y.2.1.num&&x.2.1.str.toList==y.2.1.str.toList))&&(((⟨x.2.2.1.toArray⟩:ByteArray).toList==(⟨y.2.2.1.toArray⟩:ByteArray).toList)&&((⟨x.2.2.2.toArray⟩:ByteArray).toList==(⟨y.2.2.2.toArray⟩:ByteArray).toList))))=decide (x=y):=by
 simp only[ByteArray.toList_eq]
 rw[Bool.eq_iff_iff];simp only[Bool.and_eq_true,beq_iff_eq,decide_eq_true_eq]
 constructor
 ·rintro⟨h1,⟨h2,h3,h4⟩,h5,h6⟩;have hs:x.2.1=y.2.1:=IR (by simp[Hh,h2,h3,h4]);exact Prod.ext h1 (Prod.ext hs (Prod.ext (by simpa using h5) (by simpa using h6)))
 ·rintro rfl;exact⟨rfl,⟨rfl,rfl,rfl⟩,rfl,rfl⟩
theorem Agm (x y:Say) (w:Y):(binOp .eql 255 (Fp x) (Fp y)).run Tryz.prog w=.ok (.bool (decide (x=y))) w:=by
 rw[<- Adf];obtain⟨k1,⟨a1,n1,s1⟩,p1,q1⟩:=x;obtain⟨k2,⟨a2,n2,s2⟩,p2,q2⟩:=y;unfold Fp;rw[run_eql_struct];dsimp only
 generalize (⟨p1.toArray⟩:ByteArray)=P1;generalize (⟨p2.toArray⟩:ByteArray)=P2;generalize (⟨q1.toArray⟩:ByteArray)=Q1;generalize (⟨q2.toArray⟩:ByteArray)=Q2;cases h0:(k1==k2)
 ·go_simp
 cases h1:(a1==a2)
 ·go_simp
 cases h2:(n1==n2)
 ·go_simp
 cases h3:(s1.toList==s2.toList)
 ·go_simp
 cases h4:(P1.toList==P2.toList)
 ·go_simp
 cases h5:(Q1.toList==Q2.toList)<;>go_simp
theorem Aj2 (em:Bool) (n:Nat) (v:Int) (w:Y):(Instr.checkKey em (n+1) 3 (I J v)).run Tryz.prog w=.ok () w:=by
 unfold Instr.checkKey;simp only[Sem.run_bind,run_underlying Tryz.underlying3,Result.andThen_ok];rfl
theorem Ajb (em:Bool) (n:Nat) (v:ByteArray) (w:Y):(Instr.checkKey em (n+1) 9 (Q v)).run Tryz.prog w=.ok () w:=by
 unfold Instr.checkKey;simp only[Sem.run_bind,run_underlying Tryz.underlying9,Result.andThen_ok];rfl
theorem Ajo (em:Bool) (n:Nat) (x:Sc) (w:Y):(Instr.checkKey em (n+1+1) 36 (Di x)).run Tryz.prog w=.ok () w:=by
 unfold Di Instr.checkKey;simp only[Sem.run_bind,run_underlying Tryz.underlying36,Result.andThen_ok]
 go_simp;simp[Aj2,Ajb]
theorem Ag0 (em:Bool) (s:Say) (w:Y):(Instr.checkKey em 10000 255 (Fp s)).run Tryz.prog w=.ok () w:=by
 show(Instr.checkKey em (9998+1+1) 255 (Fp s)).run Tryz.prog w=_;unfold Fp Instr.checkKey;simp only[Sem.run_bind,run_underlying Tryz.underlying255,Result.andThen_ok]
 go_simp;have h1:=Aj2 em 9998 s.1;have h2:=Ajo em 9997 s.2.1;have h3:=Ajb em 9998;unfold Di at h2;simp[h1,h2,h3]
theorem OE:Hs Tryz.prog 255 Fp:=Hs.asks Tryz.underlying255 (fun u v=>by cases u<;>cases v<;>rfl) Ag0 (fun x y w=>by
  have h:=Agm x y w;have e1:binOp .eql 255 (Fp x) (Fp y)=(do let r <- Op.equal 255 (Fp x) (Fp y);pure (Value.bool r)):=rfl;rw[e1,Sem.run_bind] at h;cases hq:(Op.equal 255 (Fp x) (Fp y)).run Tryz.prog w<;>rw[hq] at h<;>simp_all [Result.andThen,pure,Sem.run]) (fun x=>by
  show Instr.sameBits (9999+1) _ _=true;simp[Fp,Instr.sameBits];refine⟨?_,?_,?_⟩<;>(rw[Aag];simp))
end
section
section
variable {P:Program} {n:Nat} {ds:List Deferred} {d:Bool} {ops:Array Oper} {K:Act->Y->Prop} {i:Nat} {pl pend pend':List Nat} {l:Env}
 {t:Nat} {ty:TypeId} {ps:String} {af:Array Edge} {gd:Option (Nat×Bool)} {C:Nat->Prop} {w0:Y} {A A':List Aj}
theorem R.cp {x y:Operand} {t1 t2 e:TypeId} {g k c sc:Nat} {ad:Addr} {xs ys:List Value} (hk:ys.length=k) (hsrc:∀ w,Mem C w0 A w->∀ j u,ys[j]? =F u->w.cell? (ad.add j)=F u) (h1:∀ u∈ys,u.oneCell'=true)
  (h:Rj P n ds d ops K pl pend' (Mem C w0 A') ((t,I J k)::l))
  (ho:Aw ops.toList i=F ⟨F t,.call {callee:=.builtin .copy,args:=#[x,y],argTypes:=#[t1,t2]},ty,ps,af,gd⟩:=by rfl) (hx:ev l x=F (Z (F ⟨g,0,O⟩) k c):=by rfl) (hy:ev l y=F (Z (F ad) k sc):=by rfl)
  (hr:Dt (Af e 1 (Z (F ⟨g,0,O⟩) k c) k xs) (Af e 1 (Z (F ⟨g,0,O⟩) k c) k ys) A A':=by(repeat (first | exact Dt.hd | apply Dt.tl));first | done | fail) (hu:P.underlying t1=F (.slice e):=by kernel_rfl) (hi:(P.info? e).map (·.size)=F 1:=by kernel_rfl)
  (hp:Sq (ι:=Unit) d ops i pend pend' (fun _=>Mem C w0 A') (Mem C w0 A):=by first | exact .inl ⟨rfl,rfl⟩ | exact .inr (.inl ⟨rfl,by kernel_rfl⟩)) (hg:Cv ops.toList l gd=F true:=by rfl):Rj P n ds d ops K (i::pl) pend (Mem C w0 A) l:=
 R.eff (ι:=Unit) (Si:=fun _=>Mem C w0 A') (li:=fun _=>(t,I J k)::l) ho hg rfl (fun a w K' ha hd hw hk'=>by
  obtain⟨G,⟨⟨g1,g2⟩,g0⟩,g3,g4⟩:=hw.rep hr;rcases g2 with ⟨g2,_⟩ | ⟨g',cap,cur,hvv,q1,q2,q3,q4,q5,q6⟩
  ·cases g2
  cases hvv
  have hrun:=run_copy_row (P:=P) w t1 t2 ty e g 0 k c ad k sc cur e ys hu hi q2 (by rw[hk];simp) (hsrc w hw) (by rw[q5];omega) h1;rw[Nat.zero_add,List.take_zero,List.nil_append,hk] at hrun;unfold Eo;have:(execOp a.eval ⟨F t,.call {callee:=.builtin .copy,args:=#[x,y],argTypes:=#[t1,t2]},ty,ps,af,gd⟩).run P w=.ok (.value (I J k)) (w.setRow g (ys++cur.toList.drop k).toArray):=by
   simp[execOp,resolve,invoke,builtin,Sem.run_bind,pure,ha.ev hx,ha.ev hy,hrun,goInt]
  rw[this];have hsz:(w.setRow g (ys++cur.toList.drop k).toArray).heap.size=w.heap.size:=by simp
  refine hk' () _ _ (g4 G _ ⟨⟨by rw[hk,Nat.mul_one],.inr ⟨g,c,_,rfl,q1,setRow_heap w g cur _ e _ q2,q3,q4,?_,?_⟩⟩,g0⟩ ⟨rfl,rfl,rfl,by rw[hsz];exact Nat.le_refl _,fun b _ hb=>setRow_other w g b _ (fun e=>hb (by subst e;exact g0 _ rfl))⟩ (fun b hb=>⟨by rw[hsz];exact(g3 b hb).1,.inl hb⟩)) (hd _)
  ·simp only[List.size_toArray,List.length_append,List.length_drop,Array.length_toList]
   rw[q5,hk];omega
  ·rw[List.toList_toArray,List.take_append_of_le_length (by omega),List.take_of_length_le (by omega)]) hp (fun _=>h)
end
end
section
set_option maxRecDepth 100000
theorem mkI (n:Nat) (w:Y) (hn:n<=1000000):(Instr.makeSlice 38 (I J n) (I J n)).run Tryz.prog w=.ok (Z (F ⟨w.heap.size,0,O⟩) n n) (w.alloc (.cells (List.replicate n (Value.int .i64 0)).toArray 3)):=by
 obtain⟨i,hi,hz,hs,hb⟩:∃ i,Tryz.prog.info? 3=F i/\i.zero=F (I J 0)/\i.size=1/\i.bytes=8:=by
  have h:(Tryz.prog.info? 3).map (fun i=>(i.zero,i.size,i.bytes))=F (F (I J 0),1,8):=by kernel_rfl
  cases hi:Tryz.prog.info? 3 with
  | none=>rw[hi] at h;cases h
  | some i=>rw[hi] at h;simp only[Option.map_some,Option.some.injEq,Prod.mk.injEq] at h;exact⟨i,rfl,h.1,h.2.1,h.2.2⟩
 have:=run_makeSlice (P:=Tryz.prog) w 38 3 i (I J 0) elI.und hi hz .i64 .i64 n n (by omega) (Int.le_refl _) (by rw[hs];simp;omega) (by rw[hb];omega) (by omega);rw[this,hs];congr 3;apply Array.ext';simp only[madeCells,Value.cells,Array.toList_map,Array.toList_range,List.toList_toArray]
 rw[List.eq_replicate_iff];refine⟨by simp,fun b hb=>?_⟩;obtain⟨j,_,rfl⟩:=List.mem_map.1 hb;simp[Nat.mod_one]
theorem Mem.held {w0 w:Y} {A:List Aj} {X:Aj} {Fz:Nat->Prop} (h:Mem Ao w0 A w) (hX:X.is Fz w0) (hF:∀ b,Fz b->b<w0.heap.size):Mem Fz w0 (X::A) w:=
 ⟨h.1.sub (fun _ _ e=>e.elim),Fz,X.loc _ _ _ (fun b hb=>h.1.block b (hF b hb) (fun e=>e)) hX,fun b hb=>⟨Nat.lt_of_lt_of_le (hF b hb) h.1.size,.inr hb⟩,h.2.mono (fun b hb=>⟨⟨hb.1,.inl (hb.2.elim id (fun e=>e.elim))⟩,fun hf=>by have h1:=hF b hf;have h2:=hb.2.elim id (fun e=>e.elim);omega⟩) (fun _ _=>rfl)⟩
def KsM (wB w:Y) (Fz:Nat->Prop) (A:Option Addr) (ks:List Sc):Prop:=Fk w Fz A ks\/Fk wB (fun b=>b<wB.heap.size) A ks
def IsM (wB w:Y) (Fz:Nat->Prop) (A:Option Addr) (is:List Int):Prop:=GT w Fz A is\/GT wB (fun b=>b<wB.heap.size) A is
def Wh (wB w:Y) (Fz:Nat->Prop) (A:Option Addr) (ns:List Nd):Prop:=∀ j x,ns[j]? =F x->∃ b o KA kc IA ic,A=F ⟨b,o,O⟩/\Fz b/\Cs w b (o+j*6) (NP x (Z KA x.keys.length kc) (Z IA x.kids.length ic))/\KsM wB w Fz KA x.keys/\IsM wB w Fz IA x.kids
theorem Oq {Fz:Nat->Prop} {w w':Y} (h:∀ b,Fz b->w'.heap[b]? =w.heap[b]?):∀ b o v,Fz b->w.cell? ⟨b,o,O⟩=F v->w'.cell? ⟨b,o,O⟩=F v/\Fz b:=fun b o v hb hv=>⟨(World.cell?_of_block (w:=w) (a:=⟨b,o,O⟩) (h b hb)).trans hv,hb⟩
theorem Wh.loc {wB w w':Y} {Fz:Nat->Prop} {A:Option Addr} {ns:List Nd} (h:Wh wB w Fz A ns) (hl:∀ b,Fz b->w'.heap[b]? =w.heap[b]?):Wh wB w' Fz A ns:=fun j x hj=>by
 obtain⟨b,o,KA,kc,IA,ic,e,hb,hc,hk,hi⟩:=h j x hj;exact⟨b,o,KA,kc,IA,ic,e,hb,fun i v hv=>(Oq hl b _ v hb (hc i v hv)).1,hk.imp (fun h=>h.to (Oq hl)) id,hi.imp (fun h=>h.to (Oq hl)) id⟩
def grW (wB:Y) (v:Value) (g:Gf):Aj:=⟨fun Fz w=>∃ (A:Option Addr) (c:Nat),v=Eh A c g/\Wh wB w Fz A g.nodes,fun Fz w w' h ⟨A,c,e,hk⟩=>⟨A,c,e,hk.loc h⟩⟩
theorem Wh.nds {wB w:Y} {Fz:Nat->Prop} {A:Option Addr} {ns:List Nd} (h:Wh wB w Fz A ns) (hB:Below wB.heap.size wB w):CL w (fun b=>Fz b\/b<wB.heap.size) A ns:=fun j x hj=>by
 obtain⟨b,o,KA,kc,IA,ic,e,hb,hc,hk,hi⟩:=h j x hj;have h1:∀ b o v,Fz b->w.cell? ⟨b,o,O⟩=F v->w.cell? ⟨b,o,O⟩=F v/\(Fz b\/b<wB.heap.size):=fun b o v hb hv=>⟨hv,.inl hb⟩
 have h2:∀ b o v,b<wB.heap.size->wB.cell? ⟨b,o,O⟩=F v->w.cell? ⟨b,o,O⟩=F v/\(Fz b\/b<wB.heap.size):=fun b o v hb hv=>⟨(AI.of_below (C:=Ao) hB).cell hv (fun e=>e),.inr hb⟩
 exact⟨b,o,KA,kc,IA,ic,e,.inl hb,hc,hk.elim (fun h=>h.to h1) (fun h=>h.to h2),hi.elim (fun h=>h.to h1) (fun h=>h.to h2)⟩
def Ut (wB:Y) (pb:Nat) (A CA:Option Addr) (c cc:Nat) (g:Gf) (cls:List Int):List Aj:=[blk pb [I J g.root,Z A g.nodes.length c,Z CA cls.length cc] 182,Af 3 1 (Z CA cls.length cc) cls.length (cls.map (I J)),grW wB (Eh A c g) g]
def Mv (wB:Y) (pb:Nat) (A CA:Option Addr) (c cc:Nat) (g:Gf) (cls:List Int):Aj:=star (Ut wB pb A CA c cc g cls)
theorem Mv.part {wB:Y} {pb:Nat} {A CA:Option Addr} {c cc:Nat} {g:Gf} {cls:List Int} {Fz:Nat->Prop} {w:Y} (h:(Mv wB pb A CA c cc g cls).is Fz w) (hB:Below wB.heap.size wB w):Ny w (fun b=>Fz b\/b<wB.heap.size) pb A CA c cc g cls:=by
 obtain⟨F1,h1,h1s,F2,h2,h2s,F3,⟨A',c',e,h3⟩,h3s,_⟩:=h;obtain⟨CA',cc',e2,h4⟩:=Af.is' h2 rfl;unfold Eh at e;injection e with e;injection e with e;injection e with _ e;injection e with e _;injection e with e _ _;injection e2 with e2 _ _;subst e;subst e2;exact⟨Cs.of_blk h1.2,.inl (h1s pb h1.1),(h3.nds hB).to fun b o u hb hu=>⟨hu,hb.imp (fun h=>(h3s b h).1.1) id⟩,h4.to fun b o u hb hu=>⟨hu,.inl (h2s b hb).1⟩⟩
end
section
set_option maxHeartbeats 8000000
set_option maxRecDepth 100000
def syL (tx:Sc->List UInt8) (cls:List Int) (s:List (Nat×Nd)):List Say:=s.map fun p=>Uq tx cls p.2
theorem Nu {κ:Type} [DecidableEq κ]:∀ (l:List κ) (m:List (κ×Int)) (x:κ),FL (l++[x]) m=FL l m++[(A3 x (BD (Bp l m) x)).getD 0]
 | [],m,x=>rfl
 | s::r,m,x=>by
  show _::FL (r++[x]) (BD m s)=_;rw[Nu r];rfl
theorem UG {κ β:Type} [DecidableEq κ] (x:κ) (v:β):∀ m:List (κ×β),(mput x v m).length<=m.length+1
 | []=>Nat.le_refl _
 | (y,u)::r=>by
  unfold mput;split
  ·simp
  ·have:=UG x v r;simp only[List.length_cons];omega
theorem FQ {κ:Type} [DecidableEq κ]:∀ (l:List κ) (m:List (κ×Int)),(Bp l m).length<=m.length+l.length
 | [],m=>Nat.le_refl _
 | s::r,m=>by
  have h1:=FQ r (BD m s);have h2:(BD m s).length<=m.length+1:=by
   unfold BD;split
   ·omega
   ·exact UG s _ m
  show(Bp r (BD m s)).length<=m.length+(r.length+1)
  omega
theorem NM {κ:Type} [DecidableEq κ] (l:List κ) (m:List (κ×Int)) (x:κ):Bp (l++[x]) m=BD (Bp l m) x:=by unfold Bp;rw[List.foldl_append];rfl
theorem Tc {tx:Sc->List UInt8} {cls:List Int} {ns:List Nd} {k i:Nat} {x:Nd} (h:(DQ tx cls ns)[k]? =F (i,x)):i=k/\ns[k]? =F x:=by
 simp only[DQ,List.getElem?_map,List.getElem?_zipIdx,Option.map_map] at h;cases hk:ns[k]? with
 | none=>rw[hk] at h;cases h
 | some y=>rw[hk] at h;simp at h;obtain⟨rfl,rfl⟩:=h;exact⟨rfl,rfl⟩
theorem Tz {α β:Type} (f:α->β) (l:List α):(l.zipIdx.map ((fun p:Nat×α=>f p.2) ∘ fun p=>(p.2,p.1)))=l.map f:=by
 apply List.ext_getElem?;intro j;simp[List.getElem?_map,List.getElem?_zipIdx];cases l[j]? <;>rfl
theorem W6 (wB:Y) (tx:Sc->List UInt8) (pb:Nat) (A CA:Option Addr) (c cc:Nat) (g:Gf) (cls:List Int) (w:Y) (hP:Y0 wB tx g.nodes cls.length) (hcl:cls.length=g.nodes.length) (hcr:∀ n∈cls,0<=n/\n<=1000000) (h0:0<cls.length) (hB:Below wB.heap.size wB w):
  B9 Tryz.prog 85 #[.pointer (F ⟨pb,0,O⟩)] w (Mv wB pb A CA c cc g cls) (fun _:Unit=>I J (H5 tx g.nodes cls)) (fun _=>Mv wB pb A CA c cc g (H6 tx g.nodes cls)):=by
 intro Fz hX hF;have hlen:=hP.len;have hPF:Ny w (fun b=>b<w.heap.size) pb A CA c cc g cls:=(Mv.part hX hB).to fun b o v hb hv=>⟨hv,hb.elim (hF b) (fun h=>Nat.lt_of_lt_of_le h hB.size)⟩
 obtain⟨hpb,hpn,_,_⟩:=id hPF;refine V.enter _ Tryz.func85 (Mem.start (C:=Ao) w) ?_
 repeat refine W ?_
 refine R.mkm (κ:=Say) Fp fun mb hm=>?_;refine R.new fun b3 h3=>?_
 repeat refine W ?_
 refine R.lo 2 hpb ?_
 repeat refine W ?_
 refine R.bo (m:=cls.length) (sz:=1) (cs:=List.replicate cls.length (I J 0)) (bt:=3) (by simp) (by omega) (fun nb hnb=>?_) (hv:=fun ρ w h=>?_)
 ·refine R.new fun b4 h4=>?_
  repeat refine W ?_
  refine R.cf (fun w' h'=>Xo pb w') (fun gb=>?_)
  repeat refine W ?_
  refine V.range (Ahy wB tx gb pb A CA c cc g cls hP hcr) (fun s=>[blk b3 [.map (F mb)] 250,K9 Fp mb (AS (I J) (Bp (syL tx cls s) [])),blk b4 [Z (F ⟨nb,0,O⟩) cls.length cls.length] 38,Af 3 1 (Z (F ⟨nb,0,O⟩) cls.length cls.length) cls.length ((FL (syL tx cls s) []++List.replicate (cls.length - s.length) 0).map (I J))]) (fun co s=>[pr False])
   (fun w h=>by
    have e:(([]:List Int)++List.replicate (cls.length - 0) 0).map (Value.int .i64)=List.replicate cls.length (I J 0):=by simp
    show Mem Ao _ ([_]++[_,_,_,Af _ 1 _ _ ((([]:List Int)++List.replicate (cls.length - 0) 0).map (Value.int .i64))]) w;rw[e];exact h.sel) (fun w1 w2 G h hb hG=>?_) (fun r pre x Wb C' T T' Rl hadm hx hC hm=>?_) (fun D xs hf=>?_) (fun D co s=>?_)
  ·have hx:AI Ao w w2:=h.1.trans (C':=Ao) (AI.of_below hb) (fun _ _ e=>e);exact⟨AI.belowB hB (Fz:=Ao) (fun b hb=>hb.elim) hx,fun b hb=>(hG b hb).elim (fun h=>Nat.le_trans hB.size h) (fun e=>e.elim),hPF.to fun b o v hb hv=>⟨hx.cell hv (fun e=>e),fun hg=>(hG b hg).elim (fun h=>by omega) (fun e=>e.elim)⟩⟩
  ·obtain⟨i,x1⟩:=x;obtain⟨rfl,hx1⟩:=Tc hadm;have hlt:=(List.getElem?_eq_some_iff.1 hx1).1;have hyE:Fp (Uq tx cls x1)=.agg (Ag6 tx cls x1).toArray:=rfl;obtain⟨y,hy⟩:∃ y,Uq tx cls x1=y:=⟨_,rfl⟩
   rw[hy] at hyE;dsimp only
   rw[<- hyE];have hsn:syL tx cls (pre++[(pre.length,x1)])=syL tx cls pre++[y]:=by unfold syL;rw[List.map_append,List.map_singleton,hy]
   rw[hsn,Nu,NM];obtain⟨l1,hl1⟩:∃ l1,syL tx cls pre=l1:=⟨_,rfl⟩
   have hll:l1.length=pre.length:=by rw[<- hl1];unfold syL;rw[List.length_map]
   rw[hl1]
   repeat refine W ?_
   refine R.new fun b6 h6=>?_
   repeat refine W ?_
   obtain⟨m,hmm⟩:∃ m,Bp l1 []=m:=⟨_,rfl⟩
   have hml:m.length<=1000:=by
    have:=FQ l1 [];rw[hmm,List.length_nil] at this;omega
   obtain⟨q,hq⟩:∃ q,cls.length - pre.length=q+1:=⟨cls.length - pre.length - 1,by omega⟩
   have hq2:cls.length - (pre++[(pre.length,x1)]).length=q:=by rw[List.length_append,List.length_singleton];omega
   have hst:=OW (FL l1 []) (List.replicate q 0) 0 ((A3 y (BD m y)).getD 0);rw[Mk,hll] at hst;rw[hmm,hq,hq2,List.replicate_succ];refine V.mid hm ?_
   repeat refine W ?_
   refine R.look (e:=3) y OE ?_;refine R.re 23 (v:=XZ true (I J 0) (A3 y (AS (Value.int .i64) m))) (v':=.tuple #[I J ((A3 y m).getD 0),.bool (A3 y m).isSome]) (by rw[Lx,D1];cases A3 y m<;>rfl) ?_
   repeat refine W ?_
   refine V.if (fun hn=>?_) (fun hn=>?_)
   ·have ha:BD m y=mput y (m.length:Int) m:=by unfold BD;rw[if_neg (by simpa using hn)]
    repeat refine W ?_
    refine R.lenm (m:=AS (Value.int .i64) m) (k:=255) (e:=3) ?_ (hn:=by unfold AS;rw[List.length_map];omega);refine R.re 31 (v:=I J (AS (Value.int .i64) m).length) (v':=I J (m.length:Int)) (by unfold AS;rw[List.length_map]) ?_;refine R.mput (e:=3) y OE ?_;rw[GP,<- ha]
    repeat refine W ?_
    refine R.look (e:=3) y OE ?_;refine R.re 36 (v:=XZ false (I J 0) (A3 y (AS (Value.int .i64) (BD m y)))) (v':=I J ((A3 y (BD m y)).getD 0)) (by rw[JE,D1];cases A3 y (BD m y)<;>rfl) ?_;refine R.ix (show pre.length<cls.length by omega) ?_;refine R.sw (v:=I J ((A3 y (BD m y)).getD 0)) (xs':=(FL l1 []++(A3 y (BD m y)).getD 0::List.replicate q 0).map (I J)) ?_ ?_ (hp:=.inr (.inl ⟨rfl,by kernel_rfl⟩))
    ·rw[Nat.zero_add,Nat.mul_one];exact hst
    repeat refine W ?_
    rw[List.append_assoc];exact V.rn
   ·have ha:BD m y=m:=by unfold BD;rw[if_pos (by simpa using hn)]
    repeat refine W ?_
    refine R.look (e:=3) y OE ?_;refine R.re 36 (v:=XZ false (I J 0) (A3 y (AS (Value.int .i64) m))) (v':=I J ((A3 y (BD m y)).getD 0)) (by rw[JE,D1,ha];cases A3 y m<;>rfl) ?_;refine R.ix (show pre.length<cls.length by omega) ?_;refine R.sw (v:=I J ((A3 y (BD m y)).getD 0)) (xs':=(FL l1 []++(A3 y (BD m y)).getD 0::List.replicate q 0).map (I J)) ?_ ?_ (hp:=.inr (.inl ⟨rfl,by kernel_rfl⟩))
    ·rw[Nat.zero_add,Nat.mul_one];exact hst
    repeat refine W ?_
    rw[ha,List.append_assoc];exact V.rn
  ·subst hf;have hsy:syL tx cls (DQ tx cls g.nodes)=Bc tx g.nodes cls:=by
    unfold syL DQ Bc;rw[List.map_map];exact Tz (Uq tx cls) g.nodes
   rw[hsy,Hy,show cls.length - g.nodes.length=0 by omega,List.replicate_zero,List.append_nil];have hrl:(H6 tx g.nodes cls).length=cls.length:=by unfold H6 Bc;rw[Mk,List.length_map,hcl]
   obtain⟨CA',hCA⟩:∃ g,CA=F ⟨g,0,O⟩:=by
    obtain⟨F1,_,_,F2,h2,_⟩:=hX;rcases h2.1.2 with ⟨_,e0⟩ | ⟨g,cap,cur,e,_⟩
    ·omega
    ·injection e with e;exact⟨g,e⟩
   subst hCA;refine V.pre (S':=Mem Fz w (Ut wB pb A (F ⟨CA',0,O⟩) c cc g cls++[blk b3 [.map (F mb)] 250,K9 Fp mb (AS (I J) (Bp (Bc tx g.nodes cls) [])),blk b4 [Z (F ⟨nb,0,O⟩) cls.length cls.length] 38,Af 3 1 (Z (F ⟨nb,0,O⟩) cls.length cls.length) cls.length ((H6 tx g.nodes cls).map (I J)),Ob D (.deferred (F []))])) ?_ (fun w' h'=>(Mem.held (X:=Mv wB pb A (F ⟨CA',0,O⟩) c cc g cls) (A:=[blk b3 [.map (F mb)] 250,K9 Fp mb (AS (I J) (Bp (Bc tx g.nodes cls) [])),blk b4 [Z (F ⟨nb,0,O⟩) cls.length cls.length] 38,Af 3 1 (Z (F ⟨nb,0,O⟩) cls.length cls.length) cls.length ((H6 tx g.nodes cls).map (I J)),Ob D (.deferred (F []))]) h'.sel hX hF).star);show V _ _ _ _ _ _ (Mem Fz w [blk pb _ _,Af _ _ _ _ _,grW _ _ _,blk b3 _ _,K9 _ _ _,blk b4 _ _,Af _ _ _ _ _,Ob D _]) _
   repeat refine W ?_
   have hml:=FQ (Bc tx g.nodes cls) [];have hsl:(Bc tx g.nodes cls).length=g.nodes.length:=by unfold Bc;rw[List.length_map]
   rw[hsl,List.length_nil] at hml;refine R.cp (e:=3) (c:=cc) (sc:=cls.length) (xs:=cls.map (I J)) (ys:=(H6 tx g.nodes cls).map (I J)) (ad:=⟨nb,0,O⟩) (by rw[List.length_map,hrl]) (fun w' h'=>?_) (fun u hu=>List.all_eq_true.1 (QH _) u hu) ?_
   ·obtain⟨F1,h1,_⟩:=h'.has (List.Mem.tail _ (List.Mem.tail _ (List.Mem.tail _ (List.Mem.tail _ (List.Mem.tail _ (List.Mem.tail _ (List.Mem.head _)))))));exact(Af.cs h1).add
   repeat refine W ?_
   refine R.lenm (m:=AS (Value.int .i64) (Bp (Bc tx g.nodes cls) [])) (k:=255) (e:=3) ?_ (hn:=by unfold AS;rw[List.length_map];omega)
   repeat refine W ?_
   refine V.end fun w' h'=>?_;refine⟨(),by unfold AS;rw[List.length_map];rfl,Mem.toW ?_⟩;refine Mem.toStar (B:=Ut wB pb A (F ⟨CA',0,O⟩) c cc g (H6 tx g.nodes cls)) (A:=[]) ?_;unfold Ut;rw[hrl];exact h'.sel
  ·repeat refine W ?_
   refine V.prop (p:=False) fun h=>h.elim
 ·simp only[Op.operands,EV,List.map_cons,List.map_nil] at h;simp[execOp,h,mkI _ _ (show cls.length<=1000000 by omega)]
end
end Go.Proofs.YtdpppepmkeinaaaGreatDoor
