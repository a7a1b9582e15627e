/- What is proved: a part of the walk of the program and of its plain laws; no condition beside those that each theorem names. -/
import Derived.Test.YtdpppepmkeinaaaGreatDoorYs
import Derived.Test.YtdpppepmkeinaaaGreatDoorYh
import Derived.Test.YtdpppepmkeinaaaGreatDoorYk
import Derived.Test.YtdpppepmkeinaaaGreatDoorYl
import Derived.Test.YtdpppepmkeinaaaGreatDoorYm
import Derived.Test.YtdpppepmkeinaaaGreatDoorYa
import Derived.Test.YtdpppepmkeinaaaGreatDoorProg
namespace Go.Proofs.YtdpppepmkeinaaaGreatDoor
open Go Go.RowKit Go.Lib
open Go.Value renaming int->I,string->Q,slice->Z
open Go.IntKind renaming i64->J
open Option renaming none->O,some->F
open _root_.Go renaming World->Y
set_option linter.unusedSimpArgs false
set_option linter.unusedVariables false
set_option linter.unusedSectionVars false
section
theorem Qn:∀ (ps:List QP) (acc:List UInt8),(CB ps acc).1.length<=acc.length+4*ps.length
 | [],acc=>by simp[CB]
 | .sign r z::t,acc=>by
  have h1:=Qn t (acc++encodeRune r);have h2:=Lib.runeCells_le r;rw[<- Lib.byteCells_encodeRune,Lib.byteCells_length] at h2;replace h2:=h2.2;rw[List.length_append] at h1;show(CB t (acc++encodeRune r)).1.length<=_;simp only[List.length_cons];omega
 | .fin z::t,acc=>by show acc.length<=_;omega
 | .bad e::t,acc=>by show(0:Nat)<=_;omega
theorem Aam (s:ByteArray) (p:Int):(C2 s p).1.length<=4*(s.size+1):=by
 unfold C2;split
 ·split
  ·rename_i q hq;have h1:=Qn (AG s q (p.toNat+1)) [];have h2:=FY s q (s.size+1 - (p.toNat+1)) (p.toNat+1);unfold AG at h1 |-;simp only[List.length_nil] at h1;omega
  ·simp
 ·simp
theorem PL (l:List UInt8):(Gd l).length<=l.length:=by
 unfold Gd;have:=(List.dropWhile_sublist (·==(32:UInt8)) (l:=l.reverse)).length_le;rw[List.length_reverse] at this |-;exact this
theorem H7 {l:List UInt8} {p d k q0 d':Nat} {t:List UInt8} (h:Cz l p d=.ok k t q0 d'):t.length<=l.length:=by
 unfold Cz at h;split at h
 ·injection h with _ h;rw[<- h];refine Nat.le_trans (PL _) ?_;rw[List.length_drop,List.length_take];omega
 ·cases h
theorem Z7 {l:List UInt8} {p d k q0 d':Nat} {t:List UInt8} (h:Hk l p d=.ok k t q0 d'):t.length<=4*(l.length+1):=by
 unfold Hk Ace at h;split at h
 ·unfold I4 at h;split at h
  ·split at h
   ·injection h with _ h;rw[<- h];have:=Aam ⟨l.toArray⟩ p;rw[size_mk] at this;exact this
   ·cases h
  ·cases h
 ·split at h
  ·unfold Lr at h;split at h
   ·injection h with _ h;rw[<- h];unfold nameOf;have:=(List.takeWhile_sublist Ce (l:=l.drop (p+1))).length_le;rw[List.length_drop] at this;omega
   ·cases h
  ·split at h
   ·unfold GZ at h;split at h
    ·split at h
     ·cases h
     ·injection h with _ h;rw[<- h];simp
    ·have:=H7 h;omega
   ·split at h
    ·unfold FX at h;split at h
     ·injection h with _ h;rw[<- h];simp
     ·have:=H7 h;omega
    ·split at h
     ·injection h with _ h;rw[<- h];simp
     ·split at h
      ·unfold CT at h;split at h
       ·cases h
       ·split at h
        ·injection h with _ h;rw[<- h];simp
        ·injection h with _ h;rw[<- h];simp
      ·have:=H7 h;omega
theorem JJ {l:List UInt8}:∀ (f p d:Nat),∀ x∈(C3 l f p d).map WZ,x.str.length<=4*(l.length+1)
 | 0,p,d=>by intro x hx;simp[C3] at hx
 | f+1,p,d=>by
  rcases Nat.lt_or_ge p l.length with hp | hp
  ·rw[H2 hp];split
   ·exact JJ f (p+1) d
   ·split
    ·intro x hx;simp at hx
    ·cases ho:Hk l p d with
     | ok k t q d'=>
      intro x hx;rcases List.mem_cons.1 hx with rfl | hx
      ·exact Z7 ho
      ·exact JJ f q d' x hx
     | bad e=>
      intro x hx;rw[List.map_cons,List.map_nil,List.mem_singleton] at hx;subst hx;show(0:Nat)<=_;omega
  ·rw[Mz hp];intro x hx;simp at hx
theorem Rm {n:Nat}:∀ {ts:List Tk} {last:Int} {d:Nat},ZO n last d ts->∀ t∈ts,t.at_<n
 | [],_,_,_=>by intro t ht;cases ht
 | t::r,last,d,h=>by
  intro u hu;obtain⟨_,h2,_,_,_,d',_,_,_,h3⟩:=h;rcases List.mem_cons.1 hu with rfl | hu
  ·exact h2
  ·exact Rm h3 u hu
theorem F6 (l:List UInt8):(Bu l).1.length<=l.length/\(∀ t∈(Bu l).1,t.at_<l.length/\t.str.length<=4*(l.length+1)):=by
 unfold Bu;by_cases hv:validD l=true
 ·rw[if_pos hv];by_cases hp:(AJ l).all An=true
  ·rw[if_pos hp,Io];cases hb:Ds (BH l 0 0) with
   | some x=>exact⟨by simp,fun t ht=>by simp at ht⟩
   | none=>
    simp only[List.nil_append]
    have h1:=IW hv (l.length+1 - 0) 0 0;have h2:=Gh hv (l.length+1 - 0) 0 0 (-1) (by omega) hb;refine⟨by rw[List.length_map];exact h1,fun t ht=>⟨Rm h2 t ht,JJ _ _ _ t ht⟩⟩
  ·rw[if_neg hp];exact⟨by simp,fun t ht=>by simp at ht⟩
 ·rw[if_neg hv];exact⟨by simp,fun t ht=>by simp at ht⟩
theorem Yh {α:Type} (l:List α) (i:Nat) (d:α) (h:i<l.length):l.getD i d∈l:=by
 rw[List.getD,List.getElem?_eq_getElem h];exact List.getElem_mem h
structure GdL (x:En):Prop where
 g:GdN x
 len:x.l.length<=1000000
 small:∀ t∈x.l,t.str.length<=1000000
theorem Abg {x:KN} (hs:x.s.length<=100000) (h0:0<=x.ind) (h1:x.ind<=8000) (hne:(Bu x.s).1.map So≠[]):GdL ⟨x.no,x.ind,(Bu x.s).1.map So⟩:=by
 obtain⟨b1,b2⟩:=F6 x.s;have hb:∀ t∈(Bu x.s).1.map So,0<=t.at_/\t.at_<=100000/\t.str.length<=1000000:=fun t ht=>by
  obtain⟨u,hu,rfl⟩:=List.mem_map.1 ht;have:=b2 u hu;exact⟨by show(0:Int)<=(u.at_:Int);omega,by show(u.at_:Int)<=100000;omega,by show u.str.length<=1000000;omega⟩
 have hl:0<((Bu x.s).1.map So).length:=List.length_pos_iff.2 hne;have h00:=hb _ (Yh _ 0 VY hl);exact⟨⟨hne,by show -10000000<=x.ind - (((Bu x.s).1.map So).getD 0 VY).at_;omega,by show x.ind - (((Bu x.s).1.map So).getD 0 VY).at_<=10000000;omega,fun t ht=>by have:=hb t ht;omega⟩,by rw[List.length_map];show(Bu x.s).1.length<=1000000;omega,fun t ht=>(hb t ht).2.2⟩
theorem IF:∀ {l:List KN} {es:List En},HY l=.ok es->(∀ x∈l,x.s.length<=100000/\0<=x.ind/\x.ind<=8000)->(∀ y∈es,GdL y)/\Ee es<=(l.map fun x=>x.s.length+1).sum
 | [],es,h,_=>by
  rw[HY] at h;injection h with h;subst h;exact⟨(fun x hx=>by cases hx),Nat.le_refl _⟩
 | x::r,es,h,hx=>by
  have hfull:=(P6 h).2.1;rw[HY] at h;split at h
  ·cases h
  ·cases hr:HY r with
   | bad no e=>rw[hr] at h;cases h
   | ok es'=>
    rw[hr] at h;injection h with h;subst h;obtain⟨g1,g2⟩:=IF hr (fun y hy=>hx y (List.mem_cons_of_mem _ hy));have h0:=hx x List.mem_cons_self;refine⟨fun y hy=>?_,?_⟩
    ·rcases List.mem_cons.1 hy with rfl | hy
     ·exact Abg h0.1 h0.2.1 h0.2.2 (hfull _ List.mem_cons_self)
     ·exact g1 y hy
    ·rw[AR,List.map_cons,List.sum_cons];have:=(F6 x.s).1;have e:((EU x.s).1).length=(Bu x.s).1.length:=List.length_map _;show((EU x.s).1).length+1+Ee es'<=_;omega
end
section
set_option maxHeartbeats 16000000
set_option maxRecDepth 100000
def tkA (A:Option Addr) (l:List BX):Aj:=⟨fun Fz w=>Fx w Fz A l,fun Fz w w' h x=>x.to fun b o v hb hv=>⟨(World.cell?_of_block (w:=w) (a:=⟨b,o,O⟩) (h b hb)).trans hv,hb⟩⟩
theorem Tw (s:ByteArray) (w:Y) (hs:s.size<=100000) (hT:Bf w) (hE:Ea.ErrC w):
  Calls Tryz.prog 109 #[Q s] w fun e w'=>∃ q:Option Addr×Nat,e=.returned (.tuple #[Z q.1 ((Bu s.data.toList).1.map So).length q.2,I J (Bu s.data.toList).2.1,I J (Bu s.data.toList).2.2])/\Fr w w' [tkA q.1 ((Bu s.data.toList).1.map So),pr (((Bu s.data.toList).1.map So).length<=q.2)]:=by
 refine(SF s w hs hT hE).mono ?_;rintro e w' ⟨v,he,⟨A,c,rfl,ht⟩,hc,hn,hb⟩;refine⟨(A,c),by rw[List.length_map];exact he,hb,fun b=>w.heap.size<=b/\b<w'.heap.size,fun j t hj=>?_,fun b h=>h,fun _=>False,by rw[List.length_map];exact hc A _ c rfl,fun b h=>h.elim,trivial⟩;rw[List.getElem?_map] at hj;cases hg:(Bu s.data.toList).1[j]? with
 | none=>rw[hg] at hj;cases hj
 | some u=>
  rw[hg] at hj;cases hj;have hlt:=(List.getElem?_eq_some_iff.1 hg).1;obtain⟨b,o,e1,hlt2,c0,c1,c2⟩:=ht j hlt;rw[List.getD,hg] at c0 c1 c2;refine⟨b,o,e1,⟨hn b o _ c (by rw[e1]) (by omega),hlt2⟩,fun i v hv=>?_⟩
  match i,hv with
  | 0,hv=>cases hv;exact c0
  | 1,hv=>cases hv;exact c1
  | 2,hv=>cases hv;exact c2
def B0 (x:Sc):KN:=⟨x.kind,x.num,x.str.data.toList⟩
theorem Ak7:El Tryz.prog 149 219 3 40:=⟨by kernel_rfl,by kernel_rfl,by decide,by decide⟩
def Jz (x:Cn):Aj:=tkA x.2.1 x.1.l
def ofS (evs:List Cn) (z:Option Addr×Nat):List Aj:=[L9 (Z z.1 evs.length z.2) evs.length (evs.flatMap M6),star (evs.map Jz),pr (∀ x∈evs,x.1.l.length<=x.2.2)]
def lnE (x:KN):En:=⟨x.no,x.ind,(EU x.s).1⟩
theorem QR:∀ l:List KN,(∀ x∈l,(EU x.s).2=0)->HY l=.ok (l.map lnE)
 | [],_=>rfl
 | x::r,h=>by
  rw[HY,if_neg (fun h2=>h2 (h x (by simp))),QR r (fun y hy=>h y (by simp[hy]))];rfl
theorem ZJ:∀ (l:List KN) (k:Nat) (x:KN),l[k]? =F x->(∀ y∈l.take k,(EU y.s).2=0)->(EU x.s).2≠0->HY l=.bad x.no (EU x.s).2
 | y::r,0,x,h,_,hb=>by cases h;rw[HY,if_pos hb]
 | y::r,k+1,x,h,hg,hb=>by
  rw[HY,if_neg (fun h2=>h2 (hg y (by simp))),ZJ r k x h (fun z hz=>hg z (by simp[hz])) hb];rfl
def ofM (r:OfR) (z:List Cn×Option Addr×Nat):List Aj:=match r with
 | .ok es=>pr (AE z.1=es)::ofS z.1 z.2
 | .bad _ _=>[]
def ofV (r:OfR) (z:List Cn×Option Addr×Nat):Value:=match r with
 | .ok _=>.tuple #[Z z.2.1 z.1.length z.2.2,.nilIface]
 | .bad no e=>.tuple #[Z O 0 0,MC no e]
theorem YK {l:List KN} {k:Nat} {x:KN} (h:l[k]? =F x) (hx:Tx x=false):VH l=.bad 0 2:=by
 unfold VH;rw[if_neg];rw[Bool.not_eq_true,List.all_eq_false];exact⟨x,List.mem_of_getElem? h,by rw[hx];simp⟩
theorem Ado (S:Nat->Prop) (A:Option Addr) (c:Nat) (xs:List Sc) (w:Y) (hx:Fk w S A xs) (hl:xs.length<=1000000) (hs:∀ x∈xs,x.str.size<=100000) (hT:Bf w) (hE:Ea.ErrC w):
  Calls Tryz.prog 71 #[Z A xs.length c] w fun e w'=>∃ z,e=.returned (ofV (VH (xs.map B0)) z)/\Fr w w' (ofM (VH (xs.map B0)) z):=by
 refine V.enter _ Tryz.func71 (Mem.start (C:=Ao) w) ?_
 repeat refine W ?_
 refine V.loop (fun i=>i<=xs.length/\∀ y∈(xs.map B0).take i,Tx y=true) (fun i=>Mem Ao w []) (fun i=>[(14,I J i),(13,I J xs.length),(12,Z A xs.length c),(0,Z A xs.length c)]) (xs.length - ·) 0 ⟨Nat.zero_le _,fun y hy=>by simp at hy⟩ (fun w h=>h.sel) ⟨rfl,rfl,rfl,rfl,trivial⟩ ?_;rintro i ⟨hi,hok⟩
 repeat refine W ?_
 refine V.ifp (fun hlt=>?_) (fun hge=>?_)
 ·have hlt:i<xs.length:=by omega
  obtain⟨x,hxi⟩:∃ x,xs[i]? =F x:=⟨_,List.getElem?_eq_getElem hlt⟩
  obtain⟨b,o,rfl,_,hc⟩:=hx i x hxi;have hxm:(xs.map B0)[i]? =F (B0 x):=by rw[List.getElem?_map,hxi];rfl
  obtain⟨xk,xn,xs0⟩:=x
  repeat refine W ?_
  refine R.ix hlt ?_;refine R.lo (m:=3) 0 hc ?_
  repeat (first | refine W ?_ | refine R.new fun _ _=>?_)
  by_cases h1:xn<0
  ·rw[YK hxm (by unfold Tx B0;simp;omega)];refine R.yes (p:=xn<0) 21 h1 ?_
   repeat refine W ?_
   refine V.end fun w' h'=>?_;exact⟨([],O,0),rfl,(h'.sel:Mem Ao w [] w').to_fr⟩
  ·refine R.no (p:=xn<0) 21 h1 ?_
   repeat refine W ?_
   refine V.ifp (fun h2=>?_) (fun h2=>?_)
   ·rw[YK hxm (by unfold Tx B0;simp;omega)]
    repeat refine W ?_
    refine V.end fun w' h'=>?_;exact⟨([],O,0),rfl,(h'.sel:Mem Ao w [] w').to_fr⟩
   ·repeat refine W ?_
    refine V.again (i+1) rfl ⟨hlt,fun y hy=>?_⟩;rw[List.take_add_one,hxm] at hy;rcases List.mem_append.1 hy with h | h
    ·exact hok y h
    ·obtain rfl:y=B0 ⟨xk,xn,xs0⟩:=by simpa using h
     unfold Tx B0;simp;omega
 ·have he:i=xs.length:=by omega
  subst he;have hB:VH (xs.map B0)=HY (xs.map B0):=if_pos (List.all_eq_true.2 fun y hy=>hok y (by rw[List.take_of_length_le (by simp)];exact hy));rw[hB]
  repeat refine W ?_
  refine V.loop (ι:=List Cn×Option Addr×Nat) (fun z=>z.1.length<=xs.length/\AE z.1=((xs.map B0).take z.1.length).map lnE/\∀ y∈(xs.map B0).take z.1.length,(EU y.s).2=0) (fun z=>Mem Ao w (ofS z.1 z.2)) (fun z=>[(31,I J z.1.length),(30,I J xs.length),(29,Z A xs.length c),(6,Z z.2.1 z.1.length z.2.2)]) (xs.length - ·.1.length) ([],O,0) ⟨Nat.zero_le _,rfl,fun y hy=>by simp at hy⟩ (fun w h=>?_) ⟨rfl,rfl,rfl,rfl,trivial⟩ ?_
  ·have h0:Mem Ao _ [] w:=h.sel;exact((Mem.toStar (B:=[]) (h0.pr (p:=∀ x∈([]:List Cn),x.1.l.length<=x.2.2) (fun x hx=>by cases hx))).ownNil 219 3).sel
  rintro⟨evs,z⟩ ⟨hi2,hev,hgood⟩;dsimp only at hi2 hev hgood;unfold ofS;dsimp only
  repeat refine W ?_
  refine V.ifp (fun hlt=>?_) (fun hge=>?_)
  ·have hlt:evs.length<xs.length:=by omega
   obtain⟨x,hxi⟩:∃ x,xs[evs.length]? =F x:=⟨_,List.getElem?_eq_getElem hlt⟩
   obtain⟨b,o,rfl,_,hc⟩:=hx _ x hxi;have hxs:=hs x (List.mem_of_getElem? hxi);have hxm:(xs.map B0)[evs.length]? =F (B0 x):=by rw[List.getElem?_map,hxi];rfl
   obtain⟨xk,xn,xs0⟩:=x;have hrd:=fun w' (h:Below w.heap.size w w')=>Tw xs0 w' hxs (hT.below h) (hE.to (AI.of_below (C:=Ao) h) (fun e=>e));have hone:EU (B0 ⟨xk,xn,xs0⟩).s=((Bu xs0.data.toList).1.map So,if (Bu xs0.data.toList).2.2=0/\(Bu xs0.data.toList).1=[] then 93 else ((Bu xs0.data.toList).2.2:Int)):=rfl;have hbad:=ZJ (xs.map B0) evs.length _ hxm hgood;rw[hone] at hbad;have hlne:lnE (B0 ⟨xk,xn,xs0⟩)=⟨xk,xn,(Bu xs0.data.toList).1.map So⟩:=rfl;obtain⟨⟨l0,p0,e0⟩,hr⟩:∃ r,Bu xs0.data.toList=r:=⟨_,rfl⟩
   rw[hr] at hrd hone hbad hlne;dsimp only at hrd hone hbad hlne;have hnil:l0=[]↔l0.map So=[]:=by simp
   obtain⟨lt,hlt2⟩:∃ z,l0.map So=z:=⟨_,rfl⟩
   rw[hlt2] at hrd hone hlne hnil;have hce:(if e0=0/\l0=[] then (93:Int) else (e0:Int))=if e0=0/\lt=[] then 93 else (e0:Int):=by simp only[hnil]
   rw[hce] at hone hbad;clear hlt2 hnil hr hce
   repeat refine W ?_
   refine R.ix hlt ?_;refine R.lo (m:=3) 0 hc ?_
   repeat (first | refine W ?_ | refine R.new fun _ _=>?_)
   refine R.cf (fun w' h'=>hrd w' h'.1.below) (fun q=>?_)
   repeat refine W ?_
   by_cases he:e0=0
   ·refine R.re 44 (v:=.bool ((e0:Int)==0)) (v':=.bool true) (by simp[he]) ?_;subst he;by_cases hl0:lt=[]
    ·subst hl0;rw[if_pos ⟨rfl,rfl⟩] at hbad;rw[hbad (by decide)]
     repeat refine W ?_
     refine V.end fun w' h'=>?_;exact⟨([],O,0),rfl,(h'.sel:Mem Ao w [] w').to_fr⟩
    ·have hll:=List.length_pos_iff.2 hl0;rw[if_neg (fun h=>hl0 h.2)] at hone
     repeat refine W ?_
     refine V.re 48 (v:=.bool ((lt.length:Int)==0)) (v':=.bool false) (by simp;exact hl0) ?_
     repeat refine W ?_
     refine R.bs (m:=1) (cs:=M6 (⟨xk,xn,lt⟩,q)) (bt:=219) (fun bk hbk=>?_);refine R.app Ak7 (k:=evs.length) (m:=1) (xs:=evs.flatMap M6) (news:=M6 (⟨xk,xn,lt⟩,q)) (fun w' h'=>(Cs.of_blk (h'.blk (by repeat (first | exact List.Mem.head _ | apply List.Mem.tail)))).add) (by omega) (fun A2 c2=>?_)
     repeat refine W ?_
     refine V.prop (p:=lt.length<=q.2) (fun hcq=>?_);refine V.prop (p:=∀ x∈evs,x.1.l.length<=x.2.2) (fun hcp=>?_);refine V.again (evs++[(⟨xk,xn,lt⟩,q)],A2,c2) rfl ⟨by rw[List.length_append];exact hlt,?_,?_⟩ (by dsimp only;rw[List.length_append];show _ - (_+1)<_;omega) (by dsimp only;rw[List.length_append];exact⟨rfl,rfl,rfl,rfl,trivial⟩) (fun w' h'=>?_)
     ·dsimp only
      rw[show AE (evs++[(⟨xk,xn,lt⟩,q)])=AE evs++[⟨xk,xn,lt⟩] by simp,List.length_append,List.length_singleton,List.take_add_one,hxm,hev,List.map_append];show _=_++[lnE (B0 ⟨xk,xn,xs0⟩)]
      rw[hlne]
     ·dsimp only
      rw[List.length_append,List.length_singleton,List.take_add_one,hxm];intro y hy;rcases List.mem_append.1 hy with h | h
      ·exact hgood y h
      ·obtain rfl:y=B0 ⟨xk,xn,xs0⟩:=by simpa using h
       rw[hone];rfl
     ·have g1:Mem Ao w (star (evs.map Jz)::Jz (⟨xk,xn,lt⟩,q)::L9 (Z A2 (evs.length+1) c2) (evs.length+1) (evs.flatMap M6++M6 (⟨xk,xn,lt⟩,q))::[]) w':=h'.sel;have g2:=(E0 (B:=[Jz (⟨xk,xn,lt⟩,q)]) g1).pr (p:=∀ x∈evs++[((⟨xk,xn,lt⟩,q):Cn)],x.1.l.length<=x.2.2) (fun x hx=>by
       rcases List.mem_append.1 hx with h | h
       ·exact hcp x h
       ·obtain rfl:=List.mem_singleton.1 h;exact hcq)
      dsimp only
      rw[List.length_append,List.length_singleton,List.map_append,List.flatMap_append];exact g2.sel
   ·rw[if_neg (fun h=>he h.1)] at hbad;rw[hbad (by omega)];refine R.re 44 (v:=.bool ((e0:Int)==0)) (v':=.bool false) (by simp[he]) ?_
    repeat refine W ?_
    refine V.re 50 (v:=.bool ((e0:Int) !=0)) (v':=.bool true) (by simp[he]) ?_
    repeat refine W ?_
    refine V.end fun w' h'=>?_;exact⟨([],O,0),rfl,(h'.sel:Mem Ao w [] w').to_fr⟩
  ·have he:evs.length=xs.length:=by omega
   have hall:(xs.map B0).take evs.length=xs.map B0:=List.take_of_length_le (by simp;omega);rw[hall] at hev hgood;rw[QR _ hgood]
   repeat refine W ?_
   refine V.end fun w' h'=>?_;exact⟨(evs,z.1,z.2),rfl,(Mem.sel (h'.pr hev):Mem Ao w (ofM (.ok ((xs.map B0).map lnE)) (evs,z.1,z.2)) w').to_fr⟩
end
section
set_option maxHeartbeats 16000000
set_option maxRecDepth 100000
theorem Bm.mem {X:Aj}:∀ {A:List Aj} {w:Y} {G:Nat->Prop},Bm A w G->X∈A->∃ Fz:Nat->Prop,X.is Fz w/\∀ b,Fz b->G b
 | Yz::r,w,G,⟨Fz,h1,h2,h3⟩,hm=>by
  rcases List.mem_cons.1 hm with rfl | hm
  ·exact⟨Fz,h1,h2⟩
  ·obtain⟨F',k1,k2⟩:=Bm.mem h3 hm;exact⟨F',k1,fun b hb=>(k2 b hb).1⟩
theorem Mem.ownR {C:Nat->Prop} {w0 w:Y} {X:Aj} {Z0:List Aj} (h:Mem C w0 (X::Z0) w):∃ Fz:Nat->Prop,X.is Fz w/\(∀ b,Fz b->b<w.heap.size/\(w0.heap.size<=b\/C b))/\Bm Z0 w (fun b=>(b<w.heap.size/\(w0.heap.size<=b\/C b))/\¬Fz b)∧
  ∀ (X':Aj) (F':Nat->Prop) (w':Y),X'.is F' w'->AI Fz w w'->(∀ b,F' b->b<w'.heap.size/\(Fz b\/w.heap.size<=b))->Mem C w0 (X'::Z0) w':=by
 obtain⟨he,Fz,h1,h2,h3⟩:=h;refine⟨Fz,h1,h2,h3,fun X' F' w' k1 k2 k3=>⟨he.trans k2 (fun x hx hf=>?_),F',k1,fun b hb=>⟨(k3 b hb).1,(k3 b hb).2.elim (fun h=>(h2 b h).2) (fun h=>.inl (Nat.le_trans he.size h))⟩,
  h3.mono (fun b hb=>⟨⟨Nat.lt_of_lt_of_le hb.1.1 k2.size,hb.1.2⟩,fun hf=>(k3 b hf).2.elim hb.2 (fun h=>by have:=hb.1.1;omega)⟩) (fun b hb=>k2.block b hb.1.1 hb.2)⟩⟩
 rcases(h2 x hf).2 with h | h
 ·omega
 ·exact h
theorem WH {w w3:Y} {n:Nat} {rb:Nat} {evs:List Cn} {z:Option Addr×Nat} {Zz:List Aj} (hn1:n<=1000000) (h:Mem Ao w ([rdB rb z.1 evs.length z.2]++ofS evs z++Zz) w3) (hT:Bf w) (hE:Ea.ErrC w) (hg:∀ x∈AE evs,GdL x) (hn:4*Ee (AE evs)+2<=n):
  Calls Tryz.prog 72 #[.pointer (F ⟨rb,0,O⟩)] w3 fun e w4=>∃ y:TY,e=.returned (brV (Yl n (AE evs)) y)/\Mem Ao w (whA (Yl n (AE evs)) y::star (evs.map Jz)::Zz) w4:=by
 obtain⟨_,hcap,_⟩:=h.has (X:=pr (∀ x∈evs,x.1.l.length<=x.2.2)) (by simp[ofS]);have hcap:∀ x∈evs,x.1.l.length<=x.2.2:=hcap;obtain⟨_,ho,_⟩:=h.has (X:=L9 (Z z.1 evs.length z.2) evs.length (evs.flatMap M6)) (by simp[ofS]);have hO:EnO evs ⟨z.1,Z z.1 evs.length z.2,[],z.2,evs.length⟩:=by
  rcases ho.1.2 with ⟨e,h0⟩ | ⟨g,cap,cur,e,_,_,hle,_⟩
  ·have:evs=[]:=List.eq_nil_of_length_eq_zero h0;subst this;exact⟨Nat.zero_le _,fun h=>absurd rfl h⟩
  ·injection e with e1 e2 e3;exact⟨by rw[e3];exact hle,fun _=>⟨g,z.2,e1,by rw[e1]⟩⟩
 have h0:Mem Ao w (rdB rb z.1 evs.length z.2::L9 (Z z.1 evs.length z.2) evs.length (evs.flatMap M6)::star (evs.map Jz)::pr (∀ x∈evs,x.1.l.length<=x.2.2)::Zz) w3:=h;have h1:Mem Ao w (Dq rb evs::star (evs.map Jz)::pr (∀ x∈evs,x.1.l.length<=x.2.2)::Zz) w3:=Mem.toEx (⟨z.1,Z z.1 evs.length z.2,[],z.2,evs.length⟩:EnQ) (Mem.toStar (B:=[_,_,_]) (h0.pr hO));have h1:Mem Ao w (Dq rb evs::star (evs.map Jz)::Zz) w3:=h1.sub (.cons_cons _ (.cons_cons _ (.cons _ (List.Sublist.refl _))));obtain⟨Fz,a1,a2,a3,a4⟩:=h1.ownR;obtain⟨F2,b1,b2,_⟩:=a3
 let Wo:Gg:=⟨w,w3,Fz,hT,hE,h.1.below,fun b hb=>(a2 b hb).2.elim id (fun e=>e.elim)⟩
 have hes:FM Wo evs:=fun x hx=>by
  obtain⟨F3,c1,c2⟩:=Bm.mem (X:=Jz x) b1 (List.mem_map.2 ⟨x,hx,rfl⟩);have hgx:=hg x.1 (List.mem_map.2 ⟨x,hx,rfl⟩);exact⟨Fx.to c1 fun b o v hb hv=>⟨hv,((b2 b (c2 b hb)).1.1),(b2 b (c2 b hb)).2⟩,hgx.len,hgx.small,hcap x hx,hgx.g⟩
 refine(SK (Wo:=Wo) hn1 evs hes hn rb w3 (AI.refl _ _) Fz a1 (fun b hb=>(a2 b hb).1) (fun b hb=>.inr hb)).mono ?_;rintro e w4 ⟨y,he,F',hx,hF',hi⟩;exact⟨y,he,a4 _ F' w4 hi hx hF'⟩
theorem ZK (n:Nat) (hn1:n<=1000000) (S:Nat->Prop) (A:Option Addr) (c:Nat) (xs:List Sc) (w:Y) (hx:Fk w S A xs) (hl:xs.length<=1000000) (hs:∀ x∈xs,x.str.size<=100000) (hF:∀ es,HY (xs.map B0)=.ok es->4*Ee es+2<=n) (hT:Bf w) (hE:Ea.ErrC w):
  Calls Tryz.prog 50 #[Z A xs.length c] w fun e w'=>∃ y:TY,e=.returned (.tuple #[.agg (As y).toArray,I J (C0 n (xs.map B0)).2.1,I J (C0 n (xs.map B0)).2.2])/\Fr w w' [Aq (As y) (C0 n (xs.map B0)).1]:=by
 have hO:=fun w' (h:Below w.heap.size w w')=>Ado S A c xs w' (hx.to fun b o v hb hv=>⟨cell_below hv h,hb⟩) hl hs (hT.below h) (hE.to (AI.of_below (C:=Ao) h) (fun e=>e));have hgd:∀ es,VH (xs.map B0)=.ok es->(∀ x∈es,GdL x)/\4*Ee es+2<=n:=fun es h=>by
  unfold VH at h;split at h
  ·rename_i ha;refine⟨(IF h (fun x hx=>?_)).1,hF es h⟩;have h1:=List.all_eq_true.1 ha x hx;obtain⟨y,hy,rfl⟩:=List.mem_map.1 hx;have h2:=hs y hy;unfold Tx at h1;simp at h1;exact⟨by show y.str.data.toList.length<=100000;rw[<- Lib.size_eq];exact h2,h1⟩
  ·cases h
 have hR:C0 n (xs.map B0)=match VH (xs.map B0) with | .ok es=>Yw (Yl n es) | .bad no e=>(DW,no,e):=by
  unfold C0;cases VH (xs.map B0) with
  | ok es=>exact YA n es
  | bad no e=>rfl
 rw[hR];generalize VH (xs.map B0)=ro at hO hgd |-;refine V.enter _ Tryz.func50 (Mem.start (C:=Ao) w) ?_;refine W ?_;refine R.new fun b2 h2=>?_
 repeat refine W ?_
 refine R.cf (fun w' h'=>hO w' h'.1.below) (fun z=>?_);cases ro with
 | bad no e=>
  unfold ofV ofM MC
  repeat (first | refine W ?_ | refine R.new fun _ _=>?_)
  refine R.c (fun w' h'=>Ea.b_told no e w' (hE.to (AI.of_below (C:=Ao) h'.1.below) (fun e=>e))) ?_
  repeat refine W ?_
  refine V.eA (fun w' h'=>?_) (hr:=.tmp rfl (.tmp rfl .nil));exact⟨EO A4,rfl,(Mem.sel (Mem.tree0 (k:=0) (nm:=⟨#[]⟩) (x:=A4) h'):Mem Ao w [Aq (As (EO A4)) DW] w').to_fr⟩
 | ok es=>
  unfold ofV ofM ofS;refine R.know (p:=AE z.1=es) (fun w' h'=>let ⟨_,h1,_⟩:=h'.has (X:=pr (AE z.1=es)) (by simp);h1) (fun he=>?_);obtain⟨hg1,hg2⟩:=hgd es rfl;subst he;iterate 7 refine W ?_
  refine R.new fun b7 h7=>?_
  repeat refine W ?_
  refine R.new fun rb hrb=>?_;dsimp only
  have hok:=@Ahj n (AE z.1);have hC:=fun w' h'=>WH (w:=w) (w3:=w') (n:=n) (rb:=rb) (evs:=z.1) (z:=z.2) (Zz:=[Sh b7,Sh b2]) hn1 h' hT hE hg1 hg2;generalize Yl n (AE z.1)=res at hok hC |-;refine R.cx (ι:=TY) (v:=fun y=>brV res y) (A':=fun y=>[whA res y,star (z.1.map Jz),Sh b7,Sh b2]) (fun w' h'=>hC w' h'.sel) (fun y=>?_);cases res with
  | out=>exact R.know (p:=False) (fun w' h'=>let ⟨_,h1,_⟩:=h'.has (X:=pr False) (by simp[whA]);h1) (fun h=>h.elim)
  | bad no e=>
   unfold brV XU MC whA
   repeat (first | refine W ?_ | refine R.new fun _ _=>?_)
   refine R.c (fun w' h'=>Ea.b_told no e w' (hE.to (AI.of_below (C:=Ao) h'.1.below) (fun e=>e))) ?_
   repeat refine W ?_
   refine V.eA (fun w' h'=>?_) (hr:=.tmp rfl (.tmp rfl .nil));exact⟨EO A4,rfl,(Mem.sel (Mem.tree0 (k:=0) (nm:=⟨#[]⟩) (x:=A4) h'):Mem Ao w [Aq (As (EO A4)) DW] w').to_fr⟩
  | ok t r=>
   obtain rfl:=hok rfl;unfold brV XU whA
   repeat (first | refine W ?_ | refine R.new fun _ _=>?_)
   refine R.c (fun w' h'=>Ea.b_told0 w') ?_
   repeat refine W ?_
   refine V.eA (fun w' h'=>?_) (hr:=.tmp rfl (.tmp rfl .nil));exact⟨y,rfl,(Mem.sel h':Mem Ao w [Aq (As y) t] w').to_fr⟩
end
section
set_option maxRecDepth 100000
theorem Hr (no e:Int) (w:Y):Calls Tryz.prog 49 #[I J no,I J e] w fun e' w'=>e'=.returned (if e=0 then .nilIface else .iface 104 (.agg #[I J no,I J e]))/\Below w.heap.size w w':=by
 refine V.enter (Mem Ao w []) Tryz.func49 (Mem.start w) ?_
 repeat refine W ?_
 refine V.if (fun h=>?_) (fun h=>?_)
 ·repeat refine W ?_
  refine V.end fun w' h'=>?_;exact⟨by rw[if_neg (by simpa using h)];rfl,h'.1.below⟩
 ·repeat refine W ?_
  refine V.end fun w' h'=>?_;exact⟨by rw[if_pos (by simpa using h)];rfl,h'.1.below⟩
theorem OA (i n:Int) (b:Nat) (c0 c1 c2 c3 c4 c5:Value) (w:Y) (hb:Cs w b 0 [c0,c1,c2,c3,c4,c5,I J n]):
  Calls Tryz.prog 177 #[I J i,.pointer (F ⟨b,0,O⟩)] w fun e w'=>e=.returned (.bool (decide (i<0)||decide (n<=i)))/\Below w.heap.size w w':=by
 refine V.enter (Mem Ao w []) Tryz.func177 (Mem.start w) ?_
 repeat refine W ?_
 by_cases h:i<0
 ·refine R.yes 6 h ?_
  repeat refine W ?_
  refine V.end fun w' h'=>?_;exact⟨by simp[one,h],h'.1.below⟩
 ·refine R.no 6 h ?_
  repeat refine W ?_
  refine R.lo 6 hb ?_
  repeat refine W ?_
  refine V.end fun w' h'=>?_;exact⟨by simp[one,h],h'.1.below⟩
end
section
set_option maxRecDepth 100000
theorem Agw (is:List Int) (n:Int):(!(is.any fun i=>decide (i<0)||decide (n<=i)))=is.all fun i=>decide (0<=i)&&decide (i<n):=by
 induction is with
 | nil=>rfl
 | cons x r ih=>
  rw[List.any_cons,List.all_cons,Bool.not_or,ih];congr 1;by_cases h1:x<0
  ·rw[decide_eq_true h1,decide_eq_false (show ¬0<=x by omega)];simp
  ·rw[decide_eq_false h1,decide_eq_true (show 0<=x by omega)];by_cases h2:n<=x
   ·rw[decide_eq_true h2,decide_eq_false (show ¬x<n by omega)];rfl
   ·rw[decide_eq_false h2,decide_eq_true (show x<n by omega)];rfl
theorem Ki (S:Nat->Prop) (k xk xn n:Int) (xs:ByteArray) (kv:Value) (A:Option Addr) (c:Nat) (is:List Int) (w:Y) (h:GT w S A is) (hn:is.length<=1000000):
  Calls Tryz.prog 140 #[.agg #[I J k,I J xk,I J xn,Q xs,kv,Z A is.length c,I J n]] w fun e w'=>e=.returned (.bool (is.all fun i=>decide (0<=i)&&decide (i<n)))/\Below w.heap.size w w':=by
 refine V.enter _ Tryz.func140 (Mem.start (C:=Ao) w) ?_;refine W ?_;refine R.new fun b _=>?_
 repeat refine W ?_
 refine R.c (fun w' h'=>MV S A c is _ [.pointer (F ⟨b,0,O⟩)] (fun i=>decide (i<0)||decide (n<=i)) w' (h.to fun b o v hb hv=>⟨h'.1.cell hv (fun e=>e),hb⟩) (fun i _ w1 hw1=>OA i n b (I J k) (I J xk) (I J xn) (Q xs) kv (Z A is.length c) w1 ((AI.of_below (C:=Ao) hw1).cs (Cs.of_blk (h'.blk (List.Mem.head _))) fun e=>e)) hn (by intro args w;simp)) ?_
 repeat refine W ?_
 refine V.end fun w' h'=>?_;exact⟨by rw[<- Agw];rfl,h'.1.below⟩
end
section
set_option maxRecDepth 100000
theorem MF (rt:Sc->Bool) (x:Sc) (w:Y) (hR:A7 139 rt x w):A7 179 (fun x=> !rt x) x w:=by
 intro w1 hw1;refine V.enter _ Tryz.func179 (Mem.start (C:=Ao) w1) ?_
 repeat (first | refine W ?_ | refine R.new fun _ _=>?_)
 refine R.c (fun w' h'=>hR w' (hw1.trans (h'.1.below.mono hw1.size))) ?_
 repeat refine W ?_
 refine V.end fun w' h'=>?_;exact⟨rfl,h'.1.below⟩
theorem Qv (S:Nat->Prop) (rt:Sc->Bool) (dup:Bool) (k:Int) (x:Sc) (A:Option Addr) (c:Nat) (ks:List Sc) (iv:Value) (n:Int) (w:Y) (h:Fk w S A ks) (hn:ks.length<=1000000) (hR:∀ y∈ks,A7 139 rt y w)
  (hD:∀ w1,Below w.heap.size w w1->Calls Tryz.prog 157 #[Z A ks.length c] w1 fun e w'=>e=.returned (.bool dup)/\Below w1.heap.size w1 w'):
  Calls Tryz.prog 142 #[.agg #[I J k,I J x.kind,I J x.num,Q x.str,Z A ks.length c,iv,I J n]] w fun e w'=>e=.returned (.bool (ks.all rt&& !dup))/\Below w.heap.size w w':=by
 refine V.enter _ Tryz.func142 (Mem.start (C:=Ao) w) ?_
 repeat (first | refine W ?_ | refine R.new fun _ _=>?_)
 refine R.c (fun w' h'=>Gx S A c ks _ (fun y=> !rt y) w' (h.to fun b o v hb hv=>⟨h'.1.cell hv (fun e=>e),hb⟩) (fun y hy=>(MF rt y w (hR y hy)).to h'.1.below) hn (by intro args w;simp)) ?_
 repeat refine W ?_
 have hall:(!(ks.any fun y=> !rt y))=ks.all rt:=by rw[List.any_eq_not_all_not,Bool.not_not];congr 1;funext y;rw[Bool.not_not]
 by_cases hb:ks.all rt=true
 ·refine R.is 10 (hall.trans hb) ?_
  repeat refine W ?_
  refine R.c (fun w' h'=>hD w' h'.1.below) ?_
  repeat refine W ?_
  refine V.end fun w' h'=>?_;exact⟨by rw[hb,Bool.true_and];rfl,h'.1.below⟩
 ·have hb:ks.all rt=false:=by simpa using hb
  refine R.is 10 (hall.trans hb) ?_
  repeat refine W ?_
  refine V.end fun w' h'=>?_;exact⟨by rw[hb,Bool.false_and];rfl,h'.1.below⟩
end
section
set_option maxRecDepth 100000
structure KL where
 kind:Int
 xk:Int
 xn:Int
 xs:ByteArray
 ka:Option Addr
 kl:Nat
 kc:Nat
 ia:Option Addr
 il:Nat
 ic:Nat
def KL.cells (x:KL):List Value:=[I J x.kind,I J x.xk,I J x.xn,Q x.xs,Z x.ka x.kl x.kc,Z x.ia x.il x.ic]
def Rws (w:Y) (G:Nat->Prop) (A:Option Addr) (rows:List KL):Prop:=∀ k r,rows[k]? =F r->∃ a o,A=F ⟨a,o,O⟩/\Cs w a (o+k*6) r.cells/\¬G a
def Ya (rows:List KL):List (Nat×KL):=rows.zipIdx.map fun p=>(p.2,p.1)
theorem VS {rows:List KL} {k:Nat} {r:KL} (h:rows[k]? =F r):(Ya rows)[k]? =F (k,r):=by simp[Ya,h]
theorem Oj {rows:List KL}:(Ya rows).length=rows.length:=by simp[Ya]
theorem Lj {α:Type} {l:List α} {k:Nat} {x:α} (h:l[k]? =F x):l.take k++[x]=l.take (k+1):=by
 obtain⟨h1,h2⟩:=List.getElem?_eq_some_iff.1 h;rw[List.take_succ_eq_append_getElem h1,h2]
theorem Aib (gb:Nat) (root:Int) (A:Option Addr) (c:Nat) (rows:List KL) (hn:rows.length<=1000000):FH Tryz.prog 96 #[.pointer (F ⟨gb,0,O⟩)] (fun(x:Nat×KL)=>[I J x.1,.agg (x.2.cells++[Value.int .i64 rows.length]).toArray]) (fun _=>[]) (fun _=>[blk gb [I J root,Z A rows.length c] 26])
  (fun pre x=>(Ya rows)[pre.length]? =F x) (fun xs=>xs=Ya rows) (fun w G=>Rws w G A rows):=by
 refine FH.of fun l Jz Jx w G hSt hG hY hM=>?_;refine V.enter _ Tryz.func96 hM ?_
 repeat refine W ?_
 refine V.loop (·<=rows.length) (fun k=>Mem G w [blk gb [I J root,Z A rows.length c] 26,Jz ((Ya rows).take k)]) (fun k=>[(8,I J k),(7,I J rows.length),(6,Z A rows.length c),(0,.func (.yield l) #[] #[]),(1,.pointer (F ⟨gb,0,O⟩))]) (rows.length - ·) 0 (by omega) (fun w h=>h) ⟨rfl,rfl,rfl,rfl,rfl,trivial⟩ ?_;intro k hk
 repeat refine W ?_
 refine V.ifp (fun h=>?_) (fun h=>?_)
 ·have hkr:k<rows.length:=by omega
  obtain⟨r,hr⟩:∃ r,rows[k]? =F r:=⟨_,List.getElem?_eq_getElem hkr⟩
  obtain⟨a,o,rfl,hc,hna⟩:=hSt k r hr;have hi:=VS hr;have hl:((Ya rows).take k).length=k:=by rw[List.length_take,Oj];omega
  repeat refine W ?_
  refine R.ix hkr ?_;refine R.lo 0 hc ?_ hna;refine R.new fun b hb=>?_
  repeat refine W ?_
  refine R.y (hY _ (k,r) (by rw[hl];exact hi)) ?_ ?_
  ·rw[Lj hi]
   repeat refine W ?_
   exact V.again (k+1)
  ·repeat refine W ?_
   refine V.end fun w' h'=>?_;exact⟨⟨_,rfl⟩,.inr ⟨_,h'.sel⟩⟩
 ·repeat refine W ?_
  refine V.end fun w' h'=>?_;exact⟨⟨_,rfl⟩,.inl ⟨_,rfl,by rwa [List.take_of_length_le (by rw[Oj];omega)] at h'⟩⟩
theorem XT (root:Int) (A:Option Addr) (m c:Nat) (w:Y):Calls Tryz.prog 64 #[.agg #[I J root,Z A m c]] w fun e w'=>∃ b:Nat,e=.returned (.func (.func 96) #[] #[.pointer (F ⟨b,0,O⟩)])/\Fr w w' [blk b [I J root,Z A m c] 26]:=by
 refine V.enter _ Tryz.func64 (Mem.start (C:=Ao) w) ?_
 repeat refine W ?_
 refine R.new fun b hb=>?_
 repeat refine W ?_
 refine V.end fun w' h'=>?_;exact⟨b,rfl,h'.to_fr⟩
end
section
set_option maxRecDepth 100000
theorem JQ (root i:Int) (A:Option Addr) (m c:Nat) (w:Y):Calls Tryz.prog 63 #[.agg #[I J root,Z A m c],I J i] w fun e w'=>e=.returned (.bool (decide (0<=i)&&decide (i<m)))/\Below w.heap.size w w':=by
 refine V.enter _ Tryz.func63 (Mem.start (C:=Ao) w) ?_
 repeat (first | refine W ?_ | refine R.new fun _ _=>?_)
 by_cases h:0<=i
 ·refine R.yes 7 h ?_
  repeat refine W ?_
  refine V.end fun w' h'=>?_;exact⟨by simp[h,one],h'.1.below⟩
 ·refine R.no 7 h ?_
  repeat refine W ?_
  refine V.end fun w' h'=>?_;exact⟨by simp[h,one],h'.1.below⟩
theorem Aew {rows:List KL} {k i:Nat} {r:KL} (h:(Ya rows)[k]? =F (i,r)):k=i/\rows[k]? =F r:=by
 simp only[Ya,List.getElem?_map,List.getElem?_zipIdx,Option.map_map] at h;cases hk:rows[k]? with
 | none=>rw[hk] at h;cases h
 | some x=>rw[hk] at h;simp at h;obtain⟨rfl,rfl⟩:=h;exact⟨rfl,rfl⟩
theorem Cs.lt {w:Y} {b o:Nat} {v:Value} {vs:List Value} (h:Cs w b o (v::vs)):b<w.heap.size:=by
 have:=h 0 v rfl;unfold World.cell? at this;cases hk:w.heap[b]? with
 | none=>simp[hk] at this
 | some o=>exact(Gl hk)
theorem Rws.to {C G:Nat->Prop} {w w':Y} {A:Option Addr} {rows:List KL} (h:Rws w C A rows) (hx:AI C w w') (hG:∀ b,G b->w.heap.size<=b\/C b):Rws w' G A rows:=fun k r hr=>by
 obtain⟨a,o,e,hc,hn⟩:=h k r hr;exact⟨a,o,e,hx.cs hc hn,fun hg=>(hG a hg).elim (fun h=>by have:=hc.lt;omega) hn⟩
def wrV (i e:Int):Value:=.iface 118 (.agg #[I J i,I J e])
def CW (ok:Nat->Bool) (n:Nat):Value:=match (List.range n).find? (fun i=> !ok i) with
 | some i=>wrV i 70
 | none=>.nilIface
def Pf (ok:Nat->Bool) (rows:List KL) (s:List (Nat×KL)):Prop:=s=(Ya rows).take s.length/\∀ j,j<s.length->ok j=true
theorem Pf.bad {ok:Nat->Bool} {rows:List KL} {s:List (Nat×KL)} (h:Pf ok rows s) (hlt:s.length<rows.length) (hb:ok s.length=false):CW ok rows.length=wrV s.length 70:=by
 have:(List.range rows.length).find? (fun i=> !ok i)=F s.length:=by
  rw[List.find?_range_eq_some];exact⟨by simp[hb],List.mem_range.2 hlt,fun j hj=>by simp[h.2 j hj]⟩
 unfold CW;rw[this]
theorem Pf.next {ok:Nat->Bool} {rows:List KL} {s:List (Nat×KL)} (h:Pf ok rows s) {r:KL} (hr:rows[s.length]? =F r) (hb:ok s.length=true):Pf ok rows (s++[(s.length,r)]):=by
 refine⟨?_,fun j hj=>?_⟩
 ·rw[List.length_append,List.length_singleton,<- Lj (VS hr),<- h.1]
 ·rw[List.length_append,List.length_singleton] at hj;by_cases e:j=s.length
  ·rw[e];exact hb
  ·exact h.2 j (by omega)
theorem Pf.all {ok:Nat->Bool} {rows:List KL} (h:Pf ok rows (Ya rows)):CW ok rows.length=.nilIface:=by
 have:(List.range rows.length).find? (fun i=> !ok i)=O:=by
  rw[List.find?_eq_none];intro j hj;simp[h.2 j (by rw[Oj];exact List.mem_range.1 hj)]
 unfold CW;rw[this]
theorem X2 (root:Int) (A:Option Addr) (c:Nat) (rows:List KL) (ok:Nat->Bool) (w:Y) (hw:Rws w Ao A rows) (hn:rows.length<=1000000)
  (hR:∀ (k:Nat) (r:KL),rows[k]? =F r->∀ W,Below w.heap.size w W->Calls Tryz.prog 65 #[.agg (r.cells++[Value.int .i64 rows.length]).toArray] W fun e w'=>e=.returned (.bool (ok k))/\Below W.heap.size W w'):
  Calls Tryz.prog 44 #[.agg #[I J root,Z A rows.length c]] w fun e w'=>e=.returned (if 200<rows.length then wrV 0 71 else if ¬(0<=root/\root<rows.length) then wrV (-1) 70 else CW ok rows.length)/\Below w.heap.size w w':=by
 refine V.enter _ Tryz.func44 (Mem.start (C:=Ao) w) ?_;refine W ?_;refine R.new fun b1 _=>?_;refine R.new fun b2 _=>?_
 repeat refine W ?_
 refine V.if (fun h=>?_) (fun h1=>?_)
 ·repeat refine W ?_
  refine V.end fun w' h'=>?_;exact⟨by rw[if_pos (by have:=of_decide_eq_true h;omega)];rfl,h'.1.below⟩
 ·repeat refine W ?_
  refine R.c (fun w' h'=>JQ root root A rows.length c w') ?_
  repeat refine W ?_
  refine V.if (fun h=>?_) (fun h=>?_)
  ·repeat refine W ?_
   refine V.end fun w' h'=>?_;have h1:¬200<rows.length:=by have:=of_decide_eq_false h1;omega
   have hrt:¬(0<=root/\root<rows.length):=by simp at h;omega
   exact⟨by rw[if_neg h1,if_pos hrt];rfl,h'.1.below⟩
  ·have hrt:¬¬(0<=root/\root<rows.length):=by simp at h;omega
   repeat refine W ?_
   refine R.cf (fun w' h'=>XT root A rows.length c w') fun gb=>?_
   repeat refine W ?_
   refine V.range (Aib gb root A c rows hn) (fun s=>[pr (Pf ok rows s),blk b2 [.nilIface] 61]) (fun co s=>[pr (co=.ret/\CW ok rows.length=wrV ((s.length - 1:Nat)) 70),blk b2 [wrV ((s.length - 1:Nat)) 70] 61])
    (fun w h=>(h.pr (p:=Pf ok rows []) ⟨rfl,fun j hj=>by cases hj⟩).sel) (fun w1 w2 G h hb hG=>hw.to (h.1.trans (C':=Ao) (AI.of_below hb) (fun _ _ e=>e)) hG) (fun r pre x Wb C' T T' Rl hadm hx hC hm=>?_) (fun D xs hf=>?_) (fun D co s=>?_)
   ·obtain⟨i,r1⟩:=x;obtain⟨rfl,hr1⟩:=Aew hadm
    repeat refine W ?_
    refine R.new fun b3 _=>?_
    repeat refine W ?_
    refine V.mid hm ?_
    repeat refine W ?_
    refine R.c (fun w' h'=>hR _ r1 hr1 w' (hx.trans h'.1 (fun b hb hc=>(hC b hc).elim (fun h=>by omega) id)).below) ?_
    repeat refine W ?_
    refine V.if (fun h=>?_) (fun h=>?_)
    ·repeat refine W ?_
     refine V.prop (p:=Pf ok rows pre) fun hpre=>?_;refine V.pr (p:=Code.ret=.ret/\CW ok rows.length=wrV ((pre++[(pre.length,r1)]).length - 1:Nat) 70) ⟨rfl,?_⟩ ?_
     ·rw[show((pre++[(pre.length,r1)]).length - 1:Nat)=pre.length by simp];exact hpre.bad (List.getElem?_eq_some_iff.1 hr1).1 (by simpa using h)
     ·rw[show((pre++[(pre.length,r1)]).length - 1:Nat)=pre.length by simp];exact V.rr
    ·repeat refine W ?_
     refine V.prop (p:=Pf ok rows pre) fun hpre=>?_;refine V.pr (p:=Pf ok rows (pre++[(pre.length,r1)])) ?_ ?_
     ·exact hpre.next hr1 (by simpa using h)
     ·exact V.rn
   ·repeat refine W ?_
    refine V.prop (p:=Pf ok rows xs) fun hxs=>?_;refine V.end fun w' h'=>?_;have h1:¬200<rows.length:=by have:=of_decide_eq_false h1;omega
    exact⟨by rw[if_neg h1,if_neg hrt];subst hf;rw[hxs.all];rfl,h'.1.below⟩
   ·refine V.prop (p:=co=.ret/\CW ok rows.length=wrV ((s.length - 1:Nat)) 70) fun hp=>?_;obtain⟨rfl,hp⟩:=hp;refine V.end fun w' h'=>?_;have h1:¬200<rows.length:=by have:=of_decide_eq_false h1;omega
    exact⟨by rw[if_neg h1,if_neg hrt,hp];rfl,h'.1.below⟩
end
section
open Go
def Sg (n:Nat) (i:Int):Bool:=decide (0<=i)&&decide (i<n)
def Fb (rt:Sc->Bool) (n:Nat) (x:Nd):Bool:=
 if x.kind=0 then rt x.x&&decide (x.keys.length=0)&&decide (x.kids.length=0) else if x.kind=1 then decide (x.x=A4)&&decide (x.keys.length=0)&&x.kids.all (Sg n)
 else if x.kind=2 then decide (x.x=A4)&&decide (x.keys.length=x.kids.length)&&(x.keys.all rt&&decide x.keys.Nodup)&&x.kids.all (Sg n) else false
theorem ZM {n m:Nat} (h:n<=m) {i:Int} (hi:Sg n i=true):Sg m i=true:=by
 unfold Sg at*
 simp only[Bool.and_eq_true,decide_eq_true_eq] at*
 omega
theorem QO {n m:Nat} (h:n<=m) {l:List Int} (hl:l.all (Sg n)=true):l.all (Sg m)=true:=by
 rw[List.all_eq_true] at*
 exact fun x hx=>ZM h (hl x hx)
theorem VV {rt:Sc->Bool} {n m:Nat} (h:n<=m) {x:Nd} (hx:Fb rt n x=true):Fb rt m x=true:=by
 unfold Fb at*
 split at hx
 ·rename_i e;rw[if_pos e];exact hx
 ·rename_i e0;rw[if_neg e0];split at hx
  ·rename_i e;rw[if_pos e];rw[Bool.and_eq_true] at hx |-;exact⟨hx.1,QO h hx.2⟩
  ·rename_i e1;rw[if_neg e1];split at hx
   ·rename_i e;rw[if_pos e];rw[Bool.and_eq_true] at hx |-;exact⟨hx.1,QO h hx.2⟩
   ·cases hx
inductive Fz (ns:List Nd):Nat->Nat->Prop
 | refl (i:Nat):Fz ns i i
 | step {i j:Nat} {x:Nd} {k:Int} (h:ns[i]? =F x) (hk:k∈x.kids) (hr:Fz ns k.toNat j):Fz ns i j
def LeN (ns ns':List Nd):Prop:=∀ (i:Nat) (x:Nd),ns[i]? =F x->∃ x',ns'[i]? =F x'/\∀ k∈x.kids,k∈x'.kids
theorem Fz.mono {ns ns':List Nd} (h:LeN ns ns') {i j:Nat} (hr:Fz ns i j):Fz ns' i j:=by
 induction hr with
 | refl i=>exact .refl i
 | step hx hk _ ih=>obtain⟨x',h1,h2⟩:=h _ _ hx;exact .step h1 (h2 _ hk) ih
structure NR (s:St):Prop where
 names:∀ nm v,A3 nm s.names=F v->0<=v/\v<s.nodes.length
 len:s.nodes.length<=200
structure LT (rt:Sc->Bool) (s s':St) (v:Int):Prop where
 gd:NR s'
 le:s.nodes.length<=s'.nodes.length
 old:∀ i,i<s.nodes.length->s'.nodes[i]? =s.nodes[i]?
 new:∀ i x,s.nodes.length<=i->s'.nodes[i]? =F x->Fb rt s'.nodes.length x=true
 rng:0<=v/\v<s'.nodes.length
 rch:∀ i,s.nodes.length<=i->i<s'.nodes.length->Fz s'.nodes v.toNat i
structure LK (rt:Sc->Bool) (s s':St) (at_:Nat) (vs:List Int):Prop where
 gd:NR s'
 le:s.nodes.length<=s'.nodes.length
 old:∀ i,i<s.nodes.length->i≠at_->s'.nodes[i]? =s.nodes[i]?
 at_:s'.nodes[at_]? =(s.nodes[at_]?).map fun n=>{n with kids:=n.kids++vs}
 new:∀ i x,s.nodes.length<=i->s'.nodes[i]? =F x->Fb rt s'.nodes.length x=true
 rng:∀ v∈vs,0<=v/\v<s'.nodes.length
 rch:∀ i,s.nodes.length<=i->i<s'.nodes.length->∃ v∈vs,Fz s'.nodes v.toNat i
theorem chkE_ok {sb dup:Bool} {k deep:Int} {known:Bool} {ln:Nat} (h:IS sb dup k deep known ln=0):deep<=24/\sb=true/\dup=false/\(k=3->known=true)/\(k≠3->ln≠200):=by
 unfold IS at h;split at h
 ·cases h
 ·split at h
  ·cases h
  ·split at h
   ·cases h
   ·split at h
    ·cases h
    ·split at h
     ·cases h
     ·rename_i h1 h2 h3 h4 h5;refine⟨by omega,by simpa using h2,by simpa using h3,fun e=>?_,fun e e'=>h5 ⟨e,e'⟩⟩;cases known with
      | true=>rfl
      | false=>exact absurd ⟨e,rfl⟩ h4
theorem DE (s:St) (a:Nat) (v:Int):(s.kid a v).nodes.length=s.nodes.length:=by simp[St.kid]
theorem Fw (s:St) (a:Nat) (v:Int) (i:Nat):(s.kid a v).nodes[i]? =if i=a then (s.nodes[i]?).map (fun n=>{n with kids:=n.kids++[v]}) else s.nodes[i]? :=by
 unfold St.kid;rw[List.getElem?_modify];by_cases h:a=i
 ·subst h;simp
 ·rw[if_neg (fun e=>h e.symm)];simp[h]
mutual
theorem UI {rt:Sc->Bool} {nb:ByteArray->Bool}:∀ (t:Tr) (deep:Int) (s s':St) (v:Int),Cy (BU rt nb) deep t s=(s',v,0)->NR s->LT rt s s' v
 | .mk k nm x ks ts,deep,s,s',v,h,hg=>by
  unfold Cy at h;split at h
  ·rename_i hc;obtain⟨_,hsb,hdup,h3,h200⟩:=chkE_ok (show IS (CH rt (nb nm) k nm x ks ts.length) (!decide ks.Nodup) k deep (A3 nm s.names).isSome s.nodes.length=0 from hc);split at h
   ·rename_i hk;obtain⟨u,hu⟩:=Option.isSome_iff_exists.1 (h3 hk);rw[hu] at h;simp only[Prod.mk.injEq] at h;obtain⟨rfl,rfl,_⟩:=h;exact⟨hg,Nat.le_refl _,fun i _=>rfl,fun i x hi hx=>by have:=(List.getElem?_eq_some_iff.1 hx).1;omega,hg.names _ _ hu,fun i h1 h2=>by omega⟩
   ·rename_i hk;dsimp only at h;split at h
    ·rename_i hr;simp only[Prod.mk.injEq] at h;obtain⟨hs',rfl,_⟩:=h;have hlen:s.nodes.length<200:=by have:=hg.len;have:=h200 hk;omega
     have hnl:(s.node k nm x ks).nodes.length=s.nodes.length+1:=by simp[St.node]
     have hg1:NR (s.node k nm x ks):=by
      refine⟨fun m u hu=>?_,by omega⟩;rw[hnl];unfold St.node at hu;dsimp only at hu;split at hu
      ·have:=hg.names m u hu;omega
      ·rw[Nf] at hu;split at hu
       ·cases hu;omega
       ·have:=hg.names m u hu;omega
     obtain⟨vs,hvl,hK⟩:=VQ (rt:=rt) (nb:=nb) ts deep s.nodes.length (s.node k nm x ks) s' (by omega) (by rw[<- hs',<- hr]) hg1;have hat:s'.nodes[s.nodes.length]? =F ⟨k,x,ks,vs⟩:=by
      rw[hK.at_];simp[St.node]
     have hle:=hK.le;have hrg:∀ v∈vs,Sg s'.nodes.length v=true:=fun v hv=>by
      have:=hK.rng v hv;unfold Sg;simp only[Bool.and_eq_true,decide_eq_true_eq];omega
     refine⟨hK.gd,by omega,fun i hi=>?_,fun i y hi hy=>?_,by omega,fun i h1 h2=>?_⟩
     ·rw[hK.old i (by omega) (by omega)];exact List.getElem?_append_left hi
     ·by_cases e:i=s.nodes.length
      ·subst e;rw[hat] at hy;cases hy
       unfold CH LD at hsb;rw[Bool.and_eq_true] at hsb;have hsb:=hsb.1;have hd:decide ks.Nodup=true:=by simpa using hdup
       have hall:vs.all (Sg s'.nodes.length)=true:=List.all_eq_true.2 hrg;unfold Fb;dsimp only
       split at hsb
       ·rename_i e;rw[if_pos e];unfold WQ at hsb;simp only[Bool.and_eq_true,decide_eq_true_eq] at hsb |-;exact⟨hsb.1,by omega⟩
       ·rename_i e;rw[if_neg e];split at hsb
        ·rename_i e;rw[if_pos e];unfold Ae4 at hsb;simp only[Bool.and_eq_true,decide_eq_true_eq] at hsb |-;exact⟨hsb,hall⟩
        ·rename_i e;rw[if_neg e];split at hsb
         ·rename_i e;rw[if_pos e];unfold Aee at hsb;simp only[Bool.and_eq_true,decide_eq_true_eq] at hsb |-;exact⟨⟨⟨hsb.1.1,by omega⟩,hsb.2,by simpa using hd⟩,hall⟩
         ·first | cases hsb | (rw[if_neg hk] at hsb;cases hsb)
      ·exact hK.new i y (by omega) hy
     ·rw[show((s.nodes.length:Nat):Int).toNat=s.nodes.length by omega];by_cases e:i=s.nodes.length
      ·subst e;exact .refl _
      ·obtain⟨u,hu,hr⟩:=hK.rch i (by omega) h2;exact .step hat hu hr
    ·rename_i hr;simp only[Prod.mk.injEq] at h;exact absurd h.2.2 hr
  ·rename_i hc;simp only[Prod.mk.injEq] at h;exact absurd h.2.2 hc
theorem VQ {rt:Sc->Bool} {nb:ByteArray->Bool}:∀ (ts:List Tr) (deep:Int) (a:Nat) (s s':St),a<s.nodes.length->EJ (BU rt nb) deep a ts s=(s',0)->NR s->∃ vs:List Int,vs.length=ts.length/\LK rt s s' a vs
 | [],deep,a,s,s',ha,h,hg=>by
  unfold EJ at h;simp only[Prod.mk.injEq] at h;obtain⟨rfl,_⟩:=h;exact⟨[],rfl,hg,Nat.le_refl _,fun i _ _=>rfl,(by cases s.nodes[a]? <;>simp),fun i x hi hx=>by have:=(List.getElem?_eq_some_iff.1 hx).1;omega,fun v hv=>(by cases hv),fun i h1 h2=>(by omega)⟩
 | t::r,deep,a,s,s',ha,h,hg=>by
  unfold EJ at h;dsimp only at h;obtain⟨⟨s1,v,e⟩,hT⟩:∃ q,Cy (BU rt nb) (deep+1) t s=q:=⟨_,rfl⟩
  rw[hT] at h;dsimp only at h;split at h
  ·rename_i he;subst he;have h1:=UI t (deep+1) s s1 v hT hg;have hl:=h1.le;have hg2:NR (s1.kid a v):=⟨fun nm u hu=>by rw[DE];exact h1.gd.names nm u hu,by rw[DE];exact h1.gd.len⟩
   obtain⟨vs,hvl,h2⟩:=VQ r deep a (s1.kid a v) s' (by rw[DE];omega) h hg2;have hl2:=h2.le;rw[DE] at hl2;have hv:=h1.rng;have hLe:LeN s1.nodes s'.nodes:=fun i x hx=>by
    have hi:=(List.getElem?_eq_some_iff.1 hx).1;by_cases e:i=a
    ·subst e;refine⟨_,by rw[h2.at_,Fw,if_pos rfl,hx];rfl,fun k hk=>?_⟩;simp[hk]
    ·exact⟨x,by rw[h2.old i (by rw[DE];exact hi) e,Fw,if_neg e,hx],fun k hk=>hk⟩
   refine⟨v::vs,by simp[hvl],h2.gd,by omega,fun i hi hne=>?_,?_,fun i x hi hx=>?_,fun u hu=>?_,fun i hi1 hi2=>?_⟩
   ·rw[h2.old i (by rw[DE];omega) hne,Fw,if_neg hne,h1.old i hi]
   ·rw[h2.at_,Fw,if_pos rfl,h1.old a ha];cases s.nodes[a]? <;>simp
   ·by_cases hi1:i<s1.nodes.length
    ·rw[h2.old i (by rw[DE];exact hi1) (by omega),Fw,if_neg (by omega)] at hx;exact VV hl2 (h1.new i x hi hx)
    ·exact h2.new i x (by rw[DE];omega) hx
   ·rcases List.mem_cons.1 hu with rfl | hu
    ·omega
    ·exact h2.rng u hu
   ·by_cases hi3:i<s1.nodes.length
    ·exact⟨v,List.mem_cons_self ..,(h1.rch i hi1 hi3).mono hLe⟩
    ·obtain⟨u,hu,hr⟩:=h2.rch i (by rw[DE];omega) hi2;exact⟨u,List.mem_cons_of_mem _ hu,hr⟩
  ·rename_i he;simp only[Prod.mk.injEq] at h;exact absurd h.2 he
end
def A8 (chk:Tr->Int->St->Int) (t:Tr):Gf×Int:=if (Cy chk 1 t ⟨[],[]⟩).2.2=0 then (⟨0,(Cy chk 1 t ⟨[],[]⟩).1.nodes⟩,0) else (Ib,(Cy chk 1 t ⟨[],[]⟩).2.2)
structure Ji (rt:Sc->Bool) (g:Gf):Prop where
 root:g.root=0
 pos:0<g.nodes.length
 len:g.nodes.length<=200
 ok:∀ x∈g.nodes,Fb rt g.nodes.length x=true
 rch:∀ i,i<g.nodes.length->Fz g.nodes 0 i
theorem M9 {rt:Sc->Bool} {nb:ByteArray->Bool} {t:Tr} (h:(A8 (BU rt nb) t).2=0):Ji rt (A8 (BU rt nb) t).1:=by
 unfold A8 at h |-;split at h
 ·rename_i he;rw[if_pos he];obtain⟨⟨s',v,e⟩,hT⟩:∃ q,Cy (BU rt nb) 1 t ⟨[],[]⟩=q:=⟨_,rfl⟩
  rw[hT] at he;dsimp only at he;subst he;have h1:=UI t 1 ⟨[],[]⟩ s' v hT ⟨fun nm u hu=>(by cases hu),(by simp)⟩;rw[hT];have hv:v=0:=by
   cases t with
   | mk k nm x ks ts=>
    unfold Cy at hT;split at hT
    ·rename_i hc;obtain⟨_,_,_,h3,_⟩:=chkE_ok (show IS (CH rt (nb nm) k nm x ks ts.length) (!decide ks.Nodup) k 1 (A3 nm ([]:List (ByteArray×Int))).isSome 0=0 from hc);split at hT
     ·rename_i hk;have:=h3 hk;cases this
     ·dsimp only at hT;split at hT
      ·simp only[Prod.mk.injEq] at hT;exact hT.2.1.symm
      ·rename_i hr;simp only[Prod.mk.injEq] at hT;exact absurd hT.2.2 hr
    ·rename_i hc;simp only[Prod.mk.injEq] at hT;exact absurd hT.2.2 hc
  subst hv;have:=h1.rng;refine⟨rfl,by dsimp only;omega,h1.gd.len,fun x hx=>?_,fun i hi=>h1.rch i (Nat.zero_le _) hi⟩;obtain⟨i,hi,rfl⟩:=List.getElem_of_mem hx;exact h1.new i _ (Nat.zero_le _) (List.getElem?_eq_getElem hi)
 ·rename_i he;exact absurd h he
theorem GM {rt:Sc->Bool} {n:Nat} {x:Nd} (h:Fb rt n x=true):∀ k∈x.kids,0<=k/\k<n/\k∈AB x:=by
 intro k hk;have hin:∀ {l:List Int},l.all (Sg n)=true->k∈l->0<=k/\k<n:=fun hl hk=>by
  have:=List.all_eq_true.1 hl k hk;unfold Sg at this;simpa using this
 unfold Fb at h;split at h
 ·simp only[Bool.and_eq_true,decide_eq_true_eq] at h;rw[List.eq_nil_of_length_eq_zero h.2] at hk;cases hk
 ·split at h
  ·rename_i e;simp only[Bool.and_eq_true,decide_eq_true_eq] at h;obtain⟨a,b⟩:=hin h.2 hk;exact⟨a,b,QC (.inl e) hk⟩
  ·split at h
   ·rename_i e;simp only[Bool.and_eq_true,decide_eq_true_eq] at h;obtain⟨a,b⟩:=hin h.2 hk;exact⟨a,b,QC (.inr ⟨e,h.1.1.2⟩) hk⟩
   ·cases h
end
end Go.Proofs.YtdpppepmkeinaaaGreatDoor
