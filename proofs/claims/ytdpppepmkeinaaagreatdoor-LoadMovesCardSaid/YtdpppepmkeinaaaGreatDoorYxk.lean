/- What is proved: a part of the walk of the program and of its plain laws; no condition beside those that each theorem names. -/
import Derived.Test.YtdpppepmkeinaaaGreatDoorYy
import Derived.Test.YtdpppepmkeinaaaGreatDoorYxj
import Derived.Test.YtdpppepmkeinaaaGreatDoorYxc
import Derived.Test.YtdpppepmkeinaaaGreatDoorYm
import Derived.Test.YtdpppepmkeinaaaGreatDoorYxa
import Derived.Test.YtdpppepmkeinaaaGreatDoorYl
import Derived.Test.YtdpppepmkeinaaaGreatDoorYa
namespace Go.Proofs.YtdpppepmkeinaaaGreatDoor
open Go Go.RowKit Go.Lib
open Go.Value renaming int->I,string->Q,slice->Z
open Go.IntKind renaming i64->J
open Option renaming none->O,some->F
open _root_.Go renaming World->Y
set_option linter.unusedSimpArgs false
set_option linter.unusedVariables false
set_option linter.unusedSectionVars false
section
set_option maxHeartbeats 8000000
set_option maxRecDepth 100000
structure Ahj (wB:Y) (rt:Sc->Bool) (nb:ByteArray->Bool) (nm:ByteArray) (x:Sc) (ks:List Sc) (n:Nat):Prop where
 right:Bk 139 rt x wB
 rights:∀ y∈ks,Bk 139 rt y wB
 name:∀ w1,Below wB.heap.size wB w1->Calls Tryz.prog 17 #[Q nm] w1 fun e w'=>e=.returned (.bool (nb nm))/\Below w1.heap.size w1 w'
 keys:ks.length<=1000000
 kids:n<=1000000
theorem Tc (S:Nat->Prop) (A:Option Addr) (c:Nat) (ks:List Sc) (w:Y) (h:GZ w S A ks) (hn:ks.length<=1000000):
  Calls Tryz.prog 114 #[Z A ks.length c] w fun e w'=>∃ q:Option Addr×Nat,e=.returned (Z q.1 ks.length q.2)/\Fr w w' [Mg (Z q.1 ks.length q.2) ks]:=
 (TU S A c ks w h hn).mono fun e w' ⟨v,he,hf⟩=>by
  have hf2:=hf;obtain⟨_,Fz,⟨A',c',rfl,_⟩,_⟩:=hf2;exact⟨(A',c'),he,hf⟩
theorem PK.refl:∀ A:List Aw,PK A A
 | []=>.nil
 | _::A=>.cons .hd (PK.refl A)
theorem Adb {ct nt it:TypeId} {c:Nat} {s:St} {C:Nat->Prop} {w0 w:Y} {Z0:List Aw} (k:Int) (nm:ByteArray) (x:Sc) (ks:List Sc) (nb:Nat) (L:Value) (vs:List (Value×Value)) (kv:Value) (hl:vs.length=s.nodes.length) (hn:s.nodes.length<200)
  (h:Mem C w0 ([Mg kv ks,blk c [I J 0,L,.map (F nb)] ct,MZ Value.string nb (Ce (Value.int .i64) (s.node k nm x ks).names),An nt 6 L (s.nodes.length+1) (BE s.nodes vs++Ps ⟨k,x,ks,[]⟩ kv (Z O 0 0)),star (FS it s.nodes vs)]++Z0) w):Mem C w0 (XQ ct nt it c (s.node k nm x ks)::Z0) w:=by
 have hln:(s.node k nm x ks).nodes.length=s.nodes.length+1:=by simp[St.node]
 obtain⟨e1,e2⟩:=MN (it:=it) s.nodes vs ⟨k,x,ks,[]⟩ (kv,Z O 0 0) hl;refine IJ (nb,L,vs++[(kv,Z O 0 0)]) ?_;have h2:=h.ownNil it 1;have h3:Mem C w0 (star (FS it s.nodes vs)::([Mg kv ks,An it 1 (Z O 0 0) 0 []]++([blk c [I J 0,L,.map (F nb)] ct,MZ Value.string nb (Ce (Value.int .i64) (s.node k nm x ks).names),An nt 6 L (s.nodes.length+1) (BE s.nodes vs++Ps ⟨k,x,ks,[]⟩ kv (Z O 0 0))]++Z0))) w:=h2.sel (.cons (.tl (.tl (.tl (.tl (.tl .hd))))) (.cons (.tl .hd) (.cons .hd (PK.refl _))));have h4:=FK h3;rw[show([Mg kv ks,An it 1 (Z O 0 0) 0 []]:List Aw)=[Mg (kv,Value.slice O 0 0).1 (⟨k,x,ks,[]⟩:Nd).keys,An it 1 (kv,Value.slice O 0 0).2 (⟨k,x,ks,[]⟩:Nd).kids.length ((⟨k,x,ks,[]⟩:Nd).kids.map (I J))] from rfl,<- e2] at h4;have h5:=h4.pr (p:=(vs++[(kv,Value.slice O 0 0)]).length=(s.node k nm x ks).nodes.length/\(s.node k nm x ks).nodes.length<=200) ⟨by rw[hln,List.length_append,hl];rfl,by omega⟩;rw[hln] at h5;unfold XO;dsimp only
 rw[hln,show(s.node k nm x ks).nodes=s.nodes++[⟨k,x,ks,[]⟩] from rfl,e1];exact h5.sel (.cons (.tl (.tl .hd)) (.cons (.tl (.tl .hd)) (.cons (.tl (.tl .hd)) (.cons (.tl .hd) (PK.refl _)))))
theorem Lq (z:Value) (o:Option Value):lkV false z o=o.getD z:=by cases o<;>rfl
theorem Ah1 (wB:Y) (rt:Sc->Bool) (nb:ByteArray->Bool) (k:Int) (nm:ByteArray) (x:Sc) (ks:List Sc) (ts:List Tr) (hK:∀ (i:Nat) kid,ts[i]? =F kid->Abt wB rt nb kid) (hP:Ahj wB rt nb nm x ks ts.length) (hTw:ES wB (fun b=>b<wB.heap.size)):Abt wB rt nb (.mk k nm x ks ts):=by
 intro deep s c w vs hT hB hd hd2 Fz hX hF hQ;unfold D7 at hT;obtain⟨KA,kc,TA,tc,rfl,hKs,hTs⟩:=hT;have stay:∀ w',Below wB.heap.size wB w'->∀ b o v,b<wB.heap.size->wB.cell? ⟨b,o,O⟩=F v->w'.cell? ⟨b,o,O⟩=F v/\b<wB.heap.size:=fun w' h' b o v hb hv=>⟨(B4.of_below (C:=A5) h').cell hv (fun e=>e),hb⟩
 have hvis:(AT nm (Ce (Value.int .i64) s.names)).isSome=(AT nm s.names).isSome:=by rw[FJ];cases AT nm s.names<;>rfl
 refine V.enter _ Tryz.func74 (Mem.startX hX hF) ?_;refine W ?_;refine R.new fun b3 h3=>?_;refine R.new fun b4 h4=>?_;refine R.new fun b5 h5=>?_
 repeat refine W ?_
 refine R.c (v:=Ha (BY rt nb (.mk k nm x ks ts) deep s)) (fun w' h'=>?_) ?_
 ·obtain⟨h200,nb2,LA,lc,hc,hm⟩:=Yn h' (List.Mem.tail _ (List.Mem.tail _ (List.Mem.tail _ (List.Mem.head _))));have hBw:=B4.belowB hB hQ h'.1;have:=V7 c nb2 0 LA s.nodes.length lc (Ce (Value.int .i64) s.names) (BD rt (nb nm) k nm x ks ts.length) (!decide ks.Nodup) k deep nm x KA ks.length kc (Z TA ts.length tc) w' hc hm
   (fun w1 hw1=>by
    have hB1:=hBw.trans (hw1.mono hBw.size);exact RE (fun b=>b<wB.heap.size) rt (nb nm) k nm x KA TA kc ts.length tc ks w1 (hKs.to (stay w1 hB1)) hP.keys (hP.right.to hB1) (fun y hy=>(hP.rights y hy).to hB1) (fun w2 hw2=>hP.name w2 (hB1.trans (hw2.mono hB1.size))))
   (fun w1 hw1=>by
    have hB1:=hBw.trans (hw1.mono hBw.size);exact hTw w1 KA kc ks hB1 (hKs.to (stay w1 hB1)) hP.keys)
  rw[hvis] at this;exact this
 iterate 2 refine W ?_
 by_cases h0:BY rt nb (.mk k nm x ks ts) deep s=0
 ·refine V.re 8 (v:=Ha (BY rt nb (.mk k nm x ks ts) deep s)) (v':=.nilIface) (by rw[h0];rfl) ?_
  repeat refine W ?_
  refine V.if (fun hk=>?_) (fun hk=>?_)
  ·have hk:k=3:=by simpa using hk
   have hr:BO (BY rt nb) deep (.mk k nm x ks ts) s=(s,(AT nm s.names).getD 0,0):=by unfold BO;rw[if_pos h0,if_pos hk]
   rw[hr];refine V.any (fun w' h'=>JR h' (Pk.tl (Pk.tl (Pk.tl Pk.hd)))) (fun q=>?_);obtain⟨nb2,L,vs2⟩:=q;show V _ _ _ _ _ _ (Mem Fz w [blk c [I J 0,L,.map (F nb2)] 162,MZ Value.string nb2 (Ce (Value.int .i64) s.names),An 40 6 L s.nodes.length (BE s.nodes vs2),star (FS 3 s.nodes vs2),pr (vs2.length=s.nodes.length/\s.nodes.length<=200),blk b5 [I J deep] 3,blk b4 (PS k nm x (Z KA ks.length kc) (Z TA ts.length tc)) _,blk b3 [.pointer (F ⟨c,0,O⟩)] 159]) _
   repeat refine W ?_
   refine R.look (e:=3) nm Aia ?_;refine R.re 32 (v:=lkV false (I J 0) (AT nm (Ce (Value.int .i64) s.names))) (v':=I J ((AT nm s.names).getD 0)) (by rw[Lq,FJ];cases AT nm s.names<;>rfl) ?_
   repeat refine W ?_
   refine V.end fun w' h'=>?_;exact⟨(),rfl,Mem.toW (IJ (nb2,L,vs2) h'.sel)⟩
  ·have hk:k≠3:=by simpa using hk
   obtain⟨hd24,_,_,_,h200⟩:=K4 (show F7 (BD rt (nb nm) k nm x ks ts.length) (!decide ks.Nodup) k deep (AT nm s.names).isSome s.nodes.length=0 from h0);have h200:=h200 hk;obtain⟨s1,hs1⟩:∃ s1,s.node k nm x ks=s1:=⟨_,rfl⟩
   obtain⟨rK,hrK⟩:∃ rK,D3 (BY rt nb) deep s.nodes.length ts s1=rK:=⟨_,rfl⟩
   have hr:BO (BY rt nb) deep (.mk k nm x ks ts) s=if rK.2=0 then (rK.1,(s.nodes.length:Int),0) else (rK.1,0,rK.2):=by unfold BO;rw[if_pos h0,if_neg hk,hs1];dsimp only;rw[hrK]
   rw[hr];refine V.any (fun w' h'=>JR h' (Pk.tl (Pk.tl (Pk.tl Pk.hd)))) (fun q=>?_);obtain⟨nb2,L,vs2⟩:=q;show V _ _ _ _ _ _ (Mem Fz w [blk c [I J 0,L,.map (F nb2)] 162,MZ Value.string nb2 (Ce (Value.int .i64) s.names),An 40 6 L s.nodes.length (BE s.nodes vs2),star (FS 3 s.nodes vs2),pr (vs2.length=s.nodes.length/\s.nodes.length<=200),blk b5 [I J deep] 3,blk b4 (PS k nm x (Z KA ks.length kc) (Z TA ts.length tc)) _,blk b3 [.pointer (F ⟨c,0,O⟩)] 159]) _;refine V.prop (p:=vs2.length=s.nodes.length/\s.nodes.length<=200) fun hp=>?_;refine V.know (p:=∃ LA lc,L=Z LA s.nodes.length lc) (fun w' h'=>(Co h' (List.Mem.tail _ (List.Mem.tail _ (List.Mem.head _)))).elim (fun⟨e,e0⟩=>⟨O,0,by rw[e,e0]⟩) (fun⟨g,c,e⟩=>⟨_,c,e⟩)) fun hL2=>?_;obtain⟨LA,lc,rfl⟩:=hL2
   repeat refine W ?_
   refine R.new fun b9 h9=>?_;iterate 3 refine W ?_
   refine Zz.on (Mem Fz w [blk c [I J 0,Z LA s.nodes.length lc,.map (F nb2)] 162,blk b4 (PS k nm x (Z KA ks.length kc) (Z TA ts.length tc)) 165,blk b3 [.pointer (F ⟨c,0,O⟩)] 159]) ?_
   repeat refine Wz ?_
   refine Zz.cf (fun w' h'=>Tc (fun b=>b<wB.heap.size) KA kc ks w' (hKs.to (stay w' (B4.belowB hB hQ h'.1))) hP.keys) (fun q2=>?_)
   repeat refine Wz ?_
   refine Zz.bs fun bn hbn=>?_;refine Zz.app elN (k:=s.nodes.length) (m:=1) (xs:=BE s.nodes vs2) (news:=Ps ⟨k,x,ks,[]⟩ (Z q2.1 ks.length q2.2) (Z O 0 0)) (fun w' h'=>(Cs.of_blk (h'.blk (List.Mem.head _))).add) (by omega) (fun LA2 lc2=>?_);refine Zz.off (fun w' h'=>h'.sel) ?_
   repeat refine W ?_
   refine W ?_ (by exact R.st (hp:=.inr (.inl ⟨rfl,by kernel_rfl⟩)))
   repeat refine W ?_
   have hkn:=hP.kids;have hloop:s.nodes.length<200:=by omega
   have hcl:∀ (S':List Aw) (w':Y),Mem Fz w ([Mg (Z q2.1 ks.length q2.2) ks,blk c [I J 0,Z LA2 (s.nodes.length+1) lc2,.map (F nb2)] 162,MZ Value.string nb2 (Ce (Value.int .i64) s1.names),An 40 6 (Z LA2 (s.nodes.length+1) lc2) (s.nodes.length+1) (BE s.nodes vs2++Ps ⟨k,x,ks,[]⟩ (Z q2.1 ks.length q2.2) (Z O 0 0)),star (FS 3 s.nodes vs2)]++S') w'->Mem Fz w (TV c s1::S') w':=fun S' w' h'=>by
    subst hs1;exact Adb (nt:=40) (it:=3) k nm x ks nb2 _ vs2 _ hp.1 hloop h'
   have hrK0:D3 (BY rt nb) deep s.nodes.length (ts.drop 0) s1=rK:=hrK;have hs1n:(s1.nodes[s.nodes.length]?).map (·.kids.length)=F 0:=by rw[<- hs1];simp[St.node]
   clear hr;refine V.if (fun hn=>?_) (fun hn=>?_)
   ·have hnm:s1.names=mput nm (s.nodes.length:Int) s.names:=by rw[<- hs1];unfold St.node;rw[if_neg (by simpa using hn)]
    repeat refine W ?_
    refine R.mput (e:=3) nm Aia (hp:=.inr (.inl ⟨rfl,by kernel_rfl⟩)) ?_
    repeat refine W ?_
    refine V.pre (S':=Mem Fz w [star (O1 c b3 b5 b9 s.nodes.length deep s1)]) ?_ (fun w' h'=>?_)
    ·refine V.loop (ι:=Nat×St) (fun p=>p.1<=ts.length/\D3 (BY rt nb) deep s.nodes.length (ts.drop p.1) p.2=rK/\(p.2.nodes[s.nodes.length]?).map (·.kids.length)=F p.1) (fun p=>Mem Fz w [star (O1 c b3 b5 b9 s.nodes.length deep p.2)]) (fun p=>[(78,I J p.1),(77,I J ts.length),(76,Z TA ts.length tc),(10,.func (.func 115) #[] #[.pointer (F ⟨b3,0,O⟩),.pointer (F ⟨b5,0,O⟩),.pointer (F ⟨b9,0,O⟩)]),(9,.pointer (F ⟨b9,0,O⟩))]) (fun p=>ts.length - p.1) (0,s1) ⟨Nat.zero_le _,hrK0,hs1n⟩ (fun w h=>h) ⟨rfl,rfl,rfl,rfl,rfl,trivial⟩ ?_;rintro⟨i,st⟩ ⟨hi,hlay,hst⟩;dsimp only at hi hlay hst
     repeat refine W ?_
     refine V.ifp (fun hlt=>?_) (fun hge=>?_)
     ·have hlt:i<ts.length:=by omega
      obtain⟨kid,hkid⟩:∃ kid,ts[i]? =F kid:=⟨_,List.getElem?_eq_getElem hlt⟩
      obtain⟨tb,tq,us,rfl,htb,hus,htr⟩:=TsV.get hTs hkid;rw[Nat.zero_add] at hus;obtain⟨k',nm',x',ks',ts',hke⟩:∃ k' nm' x' ks' ts',kid=.mk k' nm' x' ks' ts':=by cases kid;exact⟨_,_,_,_,_,rfl⟩
      have htr0:=htr;rw[hke] at htr0;unfold D7 at htr0;obtain⟨KA',kc',TA',tc',rfl,_⟩:=htr0;have husw:Cs w tb (tq+i*7) (PS k' nm' x' (Z KA' ks'.length kc') (Z TA' ts'.length tc')):=fun j v hv=>(stay w hB tb _ v htb (hus j v hv)).1;obtain⟨r,hr⟩:∃ r,BO (BY rt nb) (deep+1) kid st=r:=⟨_,rfl⟩
      have hdr:ts.drop i=kid::ts.drop (i+1):=by
       rw[List.drop_eq_getElem_cons hlt];rw[List.getElem?_eq_getElem hlt] at hkid;cases hkid;rfl
      rw[hdr] at hlay;unfold D3 at hlay;dsimp only at hlay;rw[hr] at hlay;have hkid2:=MK wB rt nb kid (hK i kid hkid) deep st c b3 b5 b9 s.nodes.length i;rw[hr] at hkid2
      repeat refine W ?_
      refine R.ix hlt ?_;refine R.lo 0 husw ?_ (hn:=fun h=>by have:=hQ _ h;omega);refine R.new fun b12 _=>?_
      repeat refine W ?_
      refine R.cq (fun w' h'=>hkid2 w' (PS k' nm' x' (Z KA' ks'.length kc') (Z TA' ts'.length tc')) htr (B4.belowB hB hQ h'.1) (by omega) (by omega) hst (by have:=hP.kids;omega)) (fun G hG=>Hx.of hB hQ G hG) (fun _=>?_);iterate 2 refine W ?_
      by_cases he:r.2.2=0
      ·rw[if_pos he] at hlay;refine V.re 13 (v:=Ha r.2.2) (v':=.nilIface) (by rw[he];rfl) ?_
       repeat refine W ?_
       have hlen:=(FH (BY rt nb) kid (deep+1) st)
       rw[hr] at hlen;obtain⟨y,hy,hyi⟩:=Option.map_eq_some_iff.1 hst;have hya:r.1.nodes[s.nodes.length]? =F y:=by rw[hlen.2 _ (List.getElem?_eq_some_iff.1 hy).1];exact hy
       exact V.again (i+1,r.1.kid s.nodes.length r.2.1) rfl ⟨hlt,hlay,by unfold St.kid;dsimp only;rw[List.getElem?_modify,hya];simp;omega⟩
      ·rw[if_neg he] at hlay;refine V.re 13 (v:=Ha r.2.2) (v':=.iface 229 (.agg #[I J r.2.2])) (by unfold Ha;rw[if_neg he]) ?_
       repeat refine W ?_
       refine V.end fun w' h'=>?_;rw[<- hlay,if_neg he];exact⟨(),by unfold Ha;rw[if_neg he];rfl,Mem.toW h'.star.sel⟩
     ·have hi2:i=ts.length:=by omega
      rw[List.drop_eq_nil_of_le (by omega)] at hlay;unfold D3 at hlay;refine V.star ?_;show V _ _ _ _ _ _ (Mem Fz w [TV c st,blk b3 [.pointer (F ⟨c,0,O⟩)] 159,blk b5 [I J deep] 3,blk b9 [I J s.nodes.length] 3]) _
      repeat refine W ?_
      refine V.end fun w' h'=>?_;rw[<- hlay,if_pos rfl];exact⟨(),rfl,Mem.toW h'.sel⟩
    ·rw[L3,<- hnm] at h';exact Mem.toStar (B:=O1 c b3 b5 b9 s.nodes.length deep s1) (A:=[]) (hcl [blk b3 [.pointer (F ⟨c,0,O⟩)] 159,blk b5 [I J deep] 3,blk b9 [I J s.nodes.length] 3] w' h'.sel).sel
   ·have hnm:s1.names=s.names:=by rw[<- hs1];unfold St.node;rw[if_pos (by simpa using hn)]
    repeat refine W ?_
    refine V.pre (S':=Mem Fz w [star (O1 c b3 b5 b9 s.nodes.length deep s1)]) ?_ (fun w' h'=>?_)
    ·refine V.loop (ι:=Nat×St) (fun p=>p.1<=ts.length/\D3 (BY rt nb) deep s.nodes.length (ts.drop p.1) p.2=rK/\(p.2.nodes[s.nodes.length]?).map (·.kids.length)=F p.1) (fun p=>Mem Fz w [star (O1 c b3 b5 b9 s.nodes.length deep p.2)]) (fun p=>[(78,I J p.1),(77,I J ts.length),(76,Z TA ts.length tc),(10,.func (.func 115) #[] #[.pointer (F ⟨b3,0,O⟩),.pointer (F ⟨b5,0,O⟩),.pointer (F ⟨b9,0,O⟩)]),(9,.pointer (F ⟨b9,0,O⟩))]) (fun p=>ts.length - p.1) (0,s1) ⟨Nat.zero_le _,hrK0,hs1n⟩ (fun w h=>h) ⟨rfl,rfl,rfl,rfl,rfl,trivial⟩ ?_;rintro⟨i,st⟩ ⟨hi,hlay,hst⟩;dsimp only at hi hlay hst
     repeat refine W ?_
     refine V.ifp (fun hlt=>?_) (fun hge=>?_)
     ·have hlt:i<ts.length:=by omega
      obtain⟨kid,hkid⟩:∃ kid,ts[i]? =F kid:=⟨_,List.getElem?_eq_getElem hlt⟩
      obtain⟨tb,tq,us,rfl,htb,hus,htr⟩:=TsV.get hTs hkid;rw[Nat.zero_add] at hus;obtain⟨k',nm',x',ks',ts',hke⟩:∃ k' nm' x' ks' ts',kid=.mk k' nm' x' ks' ts':=by cases kid;exact⟨_,_,_,_,_,rfl⟩
      have htr0:=htr;rw[hke] at htr0;unfold D7 at htr0;obtain⟨KA',kc',TA',tc',rfl,_⟩:=htr0;have husw:Cs w tb (tq+i*7) (PS k' nm' x' (Z KA' ks'.length kc') (Z TA' ts'.length tc')):=fun j v hv=>(stay w hB tb _ v htb (hus j v hv)).1;obtain⟨r,hr⟩:∃ r,BO (BY rt nb) (deep+1) kid st=r:=⟨_,rfl⟩
      have hdr:ts.drop i=kid::ts.drop (i+1):=by
       rw[List.drop_eq_getElem_cons hlt];rw[List.getElem?_eq_getElem hlt] at hkid;cases hkid;rfl
      rw[hdr] at hlay;unfold D3 at hlay;dsimp only at hlay;rw[hr] at hlay;have hkid2:=MK wB rt nb kid (hK i kid hkid) deep st c b3 b5 b9 s.nodes.length i;rw[hr] at hkid2
      repeat refine W ?_
      refine R.ix hlt ?_;refine R.lo 0 husw ?_ (hn:=fun h=>by have:=hQ _ h;omega);refine R.new fun b12 _=>?_
      repeat refine W ?_
      refine R.cq (fun w' h'=>hkid2 w' (PS k' nm' x' (Z KA' ks'.length kc') (Z TA' ts'.length tc')) htr (B4.belowB hB hQ h'.1) (by omega) (by omega) hst (by have:=hP.kids;omega)) (fun G hG=>Hx.of hB hQ G hG) (fun _=>?_);iterate 2 refine W ?_
      by_cases he:r.2.2=0
      ·rw[if_pos he] at hlay;refine V.re 13 (v:=Ha r.2.2) (v':=.nilIface) (by rw[he];rfl) ?_
       repeat refine W ?_
       have hlen:=(FH (BY rt nb) kid (deep+1) st)
       rw[hr] at hlen;obtain⟨y,hy,hyi⟩:=Option.map_eq_some_iff.1 hst;have hya:r.1.nodes[s.nodes.length]? =F y:=by rw[hlen.2 _ (List.getElem?_eq_some_iff.1 hy).1];exact hy
       exact V.again (i+1,r.1.kid s.nodes.length r.2.1) rfl ⟨hlt,hlay,by unfold St.kid;dsimp only;rw[List.getElem?_modify,hya];simp;omega⟩
      ·rw[if_neg he] at hlay;refine V.re 13 (v:=Ha r.2.2) (v':=.iface 229 (.agg #[I J r.2.2])) (by unfold Ha;rw[if_neg he]) ?_
       repeat refine W ?_
       refine V.end fun w' h'=>?_;rw[<- hlay,if_neg he];exact⟨(),by unfold Ha;rw[if_neg he];rfl,Mem.toW h'.star.sel⟩
     ·have hi2:i=ts.length:=by omega
      rw[List.drop_eq_nil_of_le (by omega)] at hlay;unfold D3 at hlay;refine V.star ?_;show V _ _ _ _ _ _ (Mem Fz w [TV c st,blk b3 [.pointer (F ⟨c,0,O⟩)] 159,blk b5 [I J deep] 3,blk b9 [I J s.nodes.length] 3]) _
      repeat refine W ?_
      refine V.end fun w' h'=>?_;rw[<- hlay,if_pos rfl];exact⟨(),rfl,Mem.toW h'.sel⟩
    ·rw[<- hnm] at h';exact Mem.toStar (B:=O1 c b3 b5 b9 s.nodes.length deep s1) (A:=[]) (hcl [blk b3 [.pointer (F ⟨c,0,O⟩)] 159,blk b5 [I J deep] 3,blk b9 [I J s.nodes.length] 3] w' h'.sel).sel
 ·have hr:BO (BY rt nb) deep (.mk k nm x ks ts) s=(s,0,BY rt nb (.mk k nm x ks ts) deep s):=by unfold BO;rw[if_neg h0]
  rw[hr];refine V.re 8 (v:=Ha (BY rt nb (.mk k nm x ks ts) deep s)) (v':=.iface 229 (.agg #[I J (BY rt nb (.mk k nm x ks ts) deep s)])) (by unfold Ha;rw[if_neg h0]) ?_
  repeat refine W ?_
  refine V.end fun w' h'=>?_;exact⟨(),by unfold Ha;rw[if_neg h0];rfl,Mem.toW h'.sel⟩
end
section
set_option maxHeartbeats 4000000
open Go Go.RowKit Go.Extern.Stop Go.Stop Go.Extern
set_option maxRecDepth 100000
namespace Ea
theorem Aln (e:Int) (p:Addr) (w:Y) (hS:ErrS w p):Calls Tryz.prog 158 #[cwV e,etV p,.bool true] w fun ev w'=>ev=.returned (.bool true)/\Below w.heap.size w w':=by
 refine V.enter _ Tryz.func158 (Mem.start (C:=A5) w) ?_
 repeat refine W ?_
 refine V.loop (fun i:Value×Nat=>i=(cwV e,1)\/i=(etV p,0)) (fun _=>Mem A5 w []) (fun i=>[(0,i.1),(1,etV p),(2,.bool true)]) (fun i=>i.2) (cwV e,1) (.inl rfl) (fun w h=>h) ⟨rfl,rfl,rfl,trivial⟩ ?_;rintro i (rfl | rfl)
 ·iterate 5 refine W ?_
  refine R.bi (Adk e p) ?_
  repeat refine W ?_
  refine R.ta (Akg _) ?_
  repeat refine W ?_
  refine R.ta (Akd _) ?_
  repeat refine W ?_
  refine R.ci (fun w' h'=>VX e p w' (h'.1.cell hS fun e=>e)) (Amv _) (Al5 _) ?_
  repeat refine W ?_
  exact V.again (etV p,0) rfl (.inr rfl)
 ·iterate 5 refine W ?_
  refine R.bi (ZB p) ?_
  repeat refine W ?_
  refine V.end fun w' h'=>?_;exact⟨rfl,h'.1.below⟩
theorem VG (e:Int) (p:Addr) (w:Y) (hS:ErrS w p):Calls Tryz.prog 116 #[cwV e,etV p] w fun ev w'=>ev=.returned (.bool true)/\Below w.heap.size w w':=by
 refine V.enter _ Tryz.func116 (Mem.start (C:=A5) w) ?_
 repeat refine W ?_
 refine R.xp (v:=rt 382) ?_ ?_
 ·intro ρ w h hm;simp only[Op.operands,Call.operands,GD,Array.toList_append,List.toList_toArray,List.map_cons,List.map_nil,List.nil_append,List.cons_append] at h;simp[go_sem,h,T7,Afk]
 refine R.xp (v:=.bool true) ?_ ?_
 ·intro ρ w h hm;simp only[Op.operands,Call.operands,GD,Array.toList_append,List.toList_toArray,List.map_cons,List.map_nil,List.nil_append,List.cons_append] at h;simp[go_sem,h,Aim,Ak9]
 repeat refine W ?_
 refine R.c (fun w' h'=>Aln e p w' (h'.1.cell hS fun e=>e)) ?_
 repeat refine W ?_
 refine V.end fun w' h'=>?_;exact⟨rfl,h'.1.below⟩
theorem c_told (e:Int) (p:Addr) (w:Y) (hg:ErrC w) (hS:ErrS w p):Calls Tryz.prog 75 #[cwV e] w fun ev w'=>ev=.returned (I J e)/\Below w.heap.size w w':=by
 refine V.enter _ Tryz.func75 (Mem.start (C:=A5) w) ?_
 repeat refine W ?_
 refine R.new fun tb htb=>?_
 repeat refine W ?_
 refine R.lo 0 hS.cs ?_
 repeat refine W ?_
 refine R.c (fun w' h'=>VG e p w' (h'.1.cell hS fun e=>e)) ?_
 repeat refine W ?_
 refine R.cw (X:=blk tb [I J 0] 229) (v:=fun _:Unit=>.bool true) (X':=fun _=>blk tb [I J e] 229) (fun w' h'=>M5 asC (vs:=[I J e]) rfl rfl rfl w' (h'.1.cell hg fun e=>e) (fun e=>by have:=HO hg;omega)) (fun _=>?_)
 repeat refine W ?_
 refine V.end fun w' h'=>?_;exact⟨rfl,h'.1.below⟩
end Ea
end
section
set_option maxHeartbeats 4000000
set_option maxRecDepth 100000
mutual
def TrP (wB:Y) (rt:Sc->Bool) (nb:ByteArray->Bool):Tr->Prop
 | .mk k nm x ks ts=>Ahj wB rt nb nm x ks ts.length/\TsP wB rt nb ts
def TsP (wB:Y) (rt:Sc->Bool) (nb:ByteArray->Bool):List Tr->Prop
 | []=>True
 | t::r=>TrP wB rt nb t/\TsP wB rt nb r
end
mutual
theorem PC (wB:Y) (rt:Sc->Bool) (nb:ByteArray->Bool) (hTw:ES wB (fun b=>b<wB.heap.size)):∀ t,TrP wB rt nb t->Abt wB rt nb t
 | .mk k nm x ks ts,h=>by
  unfold TrP at h;exact Ah1 wB rt nb k nm x ks ts (Ob wB rt nb hTw ts h.2) h.1 hTw
theorem Ob (wB:Y) (rt:Sc->Bool) (nb:ByteArray->Bool) (hTw:ES wB (fun b=>b<wB.heap.size)):∀ ts,TsP wB rt nb ts->∀ (i:Nat) kid,ts[i]? =F kid->Abt wB rt nb kid
 | [],h=>fun i kid hk=>by cases hk
 | t::r,h=>by
  unfold TsP at h;intro i kid hk
  match i,hk with
  | 0,hk=>cases hk;exact PC wB rt nb hTw t h.1
  | i+1,hk=>exact Ob wB rt nb hTw r h.2 i kid hk
end
theorem Sh {it:TypeId} {w:Y}:∀ {ns:List Nd} {vs:List (Value×Value)} {j:Nat} {x:Nd} {p:Value×Value} {G:Nat->Prop},Cq (FS it ns vs) w G->ns[j]? =F x->vs[j]? =F p->(∃ Fz,(∀ b,Fz b->G b)/\(Mg p.1 x.keys).is Fz w)/\∃ Fz,(∀ b,Fz b->G b)/\(isA p.2 x.kids).is Fz w
 | y::r,q::t,0,x,p,G,h,hx,hp=>by
  cases hx;cases hp
  obtain⟨Fz,h1,h2,F2,h3,h4,_⟩:=h;exact⟨⟨Fz,h2,h1⟩,F2,fun b hb=>(h4 b hb).1,An.is' h3 rfl⟩
 | y::r,q::t,j+1,x,p,G,h,hx,hp=>by
  obtain⟨Fz,h1,h2,F2,h3,h4,h5⟩:=h;obtain⟨⟨F3,a1,a2⟩,F4,b1,b2⟩:=Sh h5 (j:=j) hx hp;exact⟨⟨F3,fun b hb=>(a1 b hb).1.1,a2⟩,F4,fun b hb=>(b1 b hb).1.1,b2⟩
 | [],_,j,x,p,G,h,hx,hp=>by cases hx
 | _::_,[],j,x,p,G,h,hx,hp=>by cases hp
theorem Adp {nt it:TypeId} {C:Nat->Prop} {w0 w:Y} {Z0:List Aw} {L:Value} {ns:List Nd} {vs:List (Value×Value)} (root:Int) (hl:vs.length=ns.length) (h:Mem C w0 (An nt 6 L ns.length (BE ns vs)::star (FS it ns vs)::Z0) w):Mem C w0 (KZ (.agg #[I J root,L]) ⟨root,ns⟩::Z0) w:=by
 have h9:=Mem.toStar (B:=[An nt 6 L ns.length (BE ns vs),star (FS it ns vs)]) h;refine⟨h9.1,h9.2.as fun Fz w hs=>?_⟩;clear h9 h;obtain⟨F1,h1,h2,F2,h3,h4,_⟩:=hs;have hL:(L=Z O 0 0/\ns.length=0)\/∃ g c,L=Z (F ⟨g,0,O⟩) ns.length c/\F1 g:=by
  rcases h1.1.2 with ⟨rfl,h0⟩ | ⟨g,cap,cur,rfl,_⟩
  ·exact .inl ⟨rfl,h0⟩
  ·exact .inr ⟨g,cap,rfl,h1.2 g rfl⟩
 rcases hL with ⟨rfl,h0⟩ | ⟨g,cap,rfl,hg⟩
 ·refine⟨O,0,by show _=Fx O 0 _;unfold Fx;rw[h0],fun j x hj=>?_⟩;have:ns=[]:=List.eq_nil_of_length_eq_zero h0;subst this;cases hj
 ·refine⟨_,cap,rfl,fun j x hj=>?_⟩;obtain⟨p,hp⟩:∃ p,vs[j]? =F p:=⟨_,List.getElem?_eq_getElem (by rw[hl];exact(List.getElem?_eq_some_iff.1 hj).1)⟩
  obtain⟨⟨F3,a1,KA,kc,hk,hks⟩,F4,b1,IA,ic,hi,his⟩:=Sh (show Cq (FS it ns vs) w F2 from h3) hj hp;have hc:=(An.cs h1).drop (j*6);rw[JU ns vs j x p hl hj hp,hk,hi] at hc;exact⟨g,0,KA,kc,IA,ic,rfl,h2 g hg,fun i v hv=>hc i v (by rw[List.getElem?_append_left (List.getElem?_eq_some_iff.1 hv).1];exact hv),hks.to fun b o u hb hu=>⟨hu,(h4 b (a1 b hb)).1⟩,his.to fun b o u hb hu=>⟨hu,(h4 b (b1 b hb)).1⟩⟩
theorem Ail {C:Nat->Prop} {w0 w:Y} {Z0:List Aw} (h:Mem C w0 Z0 w):Mem C w0 (KZ (.agg #[I J 0,Z O 0 0]) G8::Z0) w:=
 ⟨h.1,fun _=>False,⟨O,0,rfl,fun j x hj=>by cases hj⟩,fun _ e=>e.elim,h.2.mono (fun b hb=>⟨hb,fun e=>e⟩) (fun _ _=>rfl)⟩
theorem Agj {ct nt it:TypeId} {c nb:Nat} {C:Nat->Prop} {w0 w:Y} {Z0:List Aw} (h:Mem C w0 (blk c [I J 0,Z O 0 0,.map (F nb)] ct::MZ Value.string nb []::Z0) w):Mem C w0 (XQ ct nt it c ⟨[],[]⟩::Z0) w:=
 IJ (nb,Z O 0 0,[]) (by
  have h2:=((Mem.toStar (B:=[]) h).ownNil nt 6).pr (p:=([]:List (Value×Value)).length=([]:List Nd).length/\([]:List Nd).length<=200) ⟨rfl,by decide⟩;exact h2.sel (.cons (.tl (.tl (.tl .hd))) (.cons (.tl (.tl (.tl .hd))) (.cons (.tl .hd) (.cons (.tl .hd) (PK.refl _))))))
theorem Ti (rt:Sc->Bool) (nb:ByteArray->Bool) (t:Tr) (p:Addr) (w:Y) (vs:List Value) (hT:D7 w (fun b=>b<w.heap.size) t vs) (hP:TrP w rt nb t) (hTw:ES w (fun b=>b<w.heap.size)) (hg:Ea.ErrC w) (hS:Ea.ErrS w p):
  Calls Tryz.prog 51 #[.agg vs.toArray] w fun e w'=>∃ v,e=.returned (.tuple #[v,I J (Al (BY rt nb) t).2])/\Fr w w' [KZ v (Al (BY rt nb) t).1]:=by
 have hL:=PC w rt nb hTw t hP 1 ⟨[],[]⟩;obtain⟨r,hr⟩:∃ r,BO (BY rt nb) 1 t ⟨[],[]⟩=r:=⟨_,rfl⟩
 have hcm:Al (BY rt nb) t=if r.2.2=0 then (⟨0,r.1.nodes⟩,0) else (G8,r.2.2):=by unfold Al;rw[hr]
 rw[hr] at hL;rw[hcm];have hT0:=hT;obtain⟨k',nm',x',ks',ts',hke⟩:∃ k' nm' x' ks' ts',t=.mk k' nm' x' ks' ts':=by cases t;exact⟨_,_,_,_,_,rfl⟩
 rw[hke] at hT0;unfold D7 at hT0;obtain⟨KA',kc',TA',tc',rfl,_⟩:=hT0;refine V.enter _ Tryz.func51 (Mem.start (C:=A5) w) ?_;refine W ?_;refine R.new fun b1 h1=>?_;refine R.new fun b2 h2=>?_
 repeat refine W ?_
 refine R.mkm (κ:=ByteArray) Value.string fun bm hm=>?_
 repeat refine W ?_
 refine R.new fun bc hc=>?_;iterate 2 refine W ?_
 refine V.pre (S':=Mem A5 w [TV bc ⟨[],[]⟩,blk b1 (PS k' nm' x' (Z KA' ks'.length kc') (Z TA' ts'.length tc')) 53,blk b2 [I J 0,Z O 0 0] 26]) ?_ (fun w' h'=>Agj h'.sel)
 repeat refine W ?_
 refine R.cq (fun w' h'=>hL bc w' (PS k' nm' x' (Z KA' ks'.length kc') (Z TA' ts'.length tc')) hT (h'.1.below) (by decide) (by decide)) (fun G hG=>Hx.of (Bq _ w) (Fz:=A5) (fun b hb=>hb.elim) G hG) (fun _=>?_);iterate 6 refine W ?_
 by_cases he:r.2.2=0
 ·refine V.re 6 (v:=Ha r.2.2) (v':=.nilIface) (by rw[he];rfl) ?_;refine V.any (fun w' h'=>JR h' Pk.hd) (fun q=>?_);obtain⟨nb2,L,vs2⟩:=q;show V _ _ _ _ _ _ (Mem A5 w [blk bc [I J 0,L,.map (F nb2)] 162,MZ Value.string nb2 (Ce (Value.int .i64) r.1.names),An 40 6 L r.1.nodes.length (BE r.1.nodes vs2),star (FS 3 r.1.nodes vs2),pr (vs2.length=r.1.nodes.length/\r.1.nodes.length<=200),blk b1 (PS k' nm' x' (Z KA' ks'.length kc') (Z TA' ts'.length tc')) 53,blk b2 [I J 0,Z O 0 0] 26]) _;refine V.prop (p:=vs2.length=r.1.nodes.length/\r.1.nodes.length<=200) fun hp=>?_;refine V.know (p:=∃ LA lc,L=Z LA r.1.nodes.length lc) (fun w' h'=>(Co h' (List.Mem.tail _ (List.Mem.tail _ (List.Mem.head _)))).elim (fun⟨e,e0⟩=>⟨O,0,by rw[e,e0]⟩) (fun⟨g,c,e⟩=>⟨_,c,e⟩)) fun hL2=>?_;obtain⟨LA,lc,rfl⟩:=hL2
  repeat refine W ?_
  refine V.end (fun w' h'=>?_) (hv:=.agg rfl (by(repeat (first | exact List.Mem.head _ | apply List.Mem.tail))) (by intro w;kernel_rfl) (by intro w;simp;try rfl) (.tmp rfl .nil));rw[if_pos he];exact⟨_,rfl,(Adp (nt:=40) (it:=3) 0 hp.1 h'.sel:Mem A5 w [KZ _ _] w').to_fr⟩
 ·refine V.re 6 (v:=Ha r.2.2) (v':=Ea.cwV r.2.2) (by unfold Ha;rw[if_neg he];rfl) ?_
  repeat refine W ?_
  refine R.c (fun w' h'=>Ea.c_told r.2.2 p w' (h'.1.cell hg fun e=>e) (h'.1.cell hS fun e=>e)) ?_
  repeat refine W ?_
  refine V.end (fun w' h'=>?_) (hv:=.agg rfl (by(repeat (first | exact List.Mem.head _ | apply List.Mem.tail))) (by intro w;kernel_rfl) (by intro w;simp;try rfl) (.tmp rfl .nil));rw[if_neg he];exact⟨_,rfl,(Ail (show Mem A5 w [] w' from h'.sel)).to_fr⟩
end
section
set_option maxHeartbeats 4000000
set_option maxRecDepth 100000
def Eb (no e:Int):Value:=if e=0 then .nilIface else .iface 104 (.agg #[I J no,I J e])
theorem W8 (rt:Sc->Bool) (nb:ByteArray->Bool) (t:Tr) (p:Addr) (src:ByteArray) (w:Y) (vs:List Value) (hT:D7 w (fun b=>b<w.heap.size) t vs) (hP:TrP w rt nb t) (hTw:ES w (fun b=>b<w.heap.size)) (hg:Ea.ErrC w) (hS:Ea.ErrS w p)
  (hb:∀ w',Below w.heap.size w w'->D7 w' (fun b=>b<w'.heap.size) t vs/\TrP w' rt nb t/\ES w' (fun b=>b<w'.heap.size)):
  Calls Tryz.prog 26 #[.agg #[Q src],.iface 53 (.agg vs.toArray)] w fun e w'=>∃ v,e=.returned (.tuple #[.iface 26 v,Eb 0 (Al (BY rt nb) t).2])/\Fr w w' [KZ v (Al (BY rt nb) t).1]:=by
 refine V.enter _ Tryz.func26 (Mem.start (C:=A5) w) ?_;refine W ?_;refine R.new fun b2 h2=>?_
 repeat refine W ?_
 refine R.cf (fun w' h'=>by
  obtain⟨a,b,c⟩:=hb w' h'.1.below;exact Ti rt nb t p w' vs a b c (h'.1.cell hg fun e=>e) (h'.1.cell hS fun e=>e)) (fun v=>?_)
 refine R.know (p:=∃ r L,v=.agg #[r,L]/\r.oneCell'=true/\L.oneCell'=true) (fun w' h'=>by
  obtain⟨Fz,⟨A,c,e,_⟩,_⟩:=h'.has (List.Mem.head _);exact⟨_,_,e,rfl,rfl⟩) fun hv=>?_
 obtain⟨r,L,rfl,hr,hL⟩:=hv
 repeat refine W ?_
 refine R.new fun b6 h6=>?_;have e26:∀ w,(isAgg 26).run Tryz.prog w=.ok true w:=Tryz.isAgg26;refine W ?_ (by exact R.st (ho1:=by show(r::L::[]).all _=true;rw[List.all_cons,List.all_cons,hr,hL];rfl))
 repeat refine W ?_
 refine R.c (fun w' h'=>J5 0 (Al (BY rt nb) t).2 w') ?_
 repeat refine W ?_
 refine V.end fun w' h'=>?_;exact⟨_,rfl,(h'.sel:Mem A5 w [KZ _ _] w').to_fr⟩
end
section
set_option maxRecDepth 100000
theorem Zk (src:ByteArray) (A:Option Addr) (n c:Nat) (w:Y):Calls Tryz.prog 47 #[.agg #[Q src],Z A n c] w fun e w'=>∃ b:Nat,e=.returned (.func (.func 67) #[] #[.pointer (F ⟨b,0,O⟩)])/\Fr w w' [blk b [Z A n c] 92]:=by
 refine V.enter _ Tryz.func47 (Mem.start (C:=A5) w) ?_;refine W ?_;refine R.new fun b2 h2=>?_;refine R.new fun b3 h3=>?_
 repeat refine W ?_
 refine V.end fun w' h'=>?_;exact⟨b3,rfl,(h'.sel:Mem A5 w [_] w').to_fr⟩
end
section
def Cl (n:Nat):UInt8:=if n<10 then UInt8.ofNat (48+n) else UInt8.ofNat (87+n)
def A8 (r:Nat):List UInt8:=
 if r=10 then [92,110] else if r=9 then [92,116] else if r=13 then [92,114]
 else if r=34\/r=92 then [92,UInt8.ofNat r]
 else if Ac r then encodeRune r else [92,120,Cl (r / 16),Cl (r%16)]
def Ae (l:List UInt8):List UInt8:=34::((Ag l).flatMap A8++[34])
def DZ (r:Nat):Prop:=PH (r:Int)=true
theorem E8:∀ (n:Nat) (l:List UInt8),l.length<=n->validD l=true->∀ r∈Ag l,DZ r
 | n,[],_,_,r,h=>by rw[GQ] at h;simp at h
 | 0,c::t,h,_,_,_=>by simp at h
 | n+1,c::t,h,hv,r,hr=>by
  have hne:c::t≠[]:=by simp
  have hb:¬((decodeL (c::t)).1=65533/\(decodeL (c::t)).2=1):=fun h=>by rw[validD_step _ hne,if_pos h] at hv;cases hv
  have hw:=decodeL_width (c::t);rw[Av _ hne] at hr;rcases List.mem_cons.1 hr with rfl | hr
  ·have hvr:=ER _ hne hb;unfold Lib.validRune at hvr;rw[decide_eq_true_eq] at hvr;unfold DZ;rw[GT];omega
  ·exact E8 n _ (by rw[List.length_drop];simp at h |-;omega) (Cu _ hne hv) r hr
theorem IC:∀ q:Fin 16,OD (Cl q.val)=F q.val/\(Cl q.val).toNat<128/\32<=(Cl q.val).toNat/\(Cl q.val).toNat≠127:=by decide+kernel
theorem GY {r:Nat} (h:Ac r=false):r<128:=by
 unfold Ac BW at h;simp at h;omega
end
section
def Alj (x:Sc):List UInt8:=
 if x.kind=0 then [110,117,108,108] else if x.kind=1 then (if x.num=1 then [116,114,117,101] else [102,97,108,115,101])
 else if x.kind=2 then itoa x.num else Ae x.str.data.toList
def Fw (x:Sc):ByteArray×Int:=if A4 x then (⟨(Alj x).toArray⟩,0) else (⟨#[]⟩,60)
theorem Ald {s:ByteArray} {l:List UInt8} (h:s.data.toList=l):s=⟨l.toArray⟩:=by subst h;rfl
theorem Oa {s:ByteArray} (h:s.data.toList.isEmpty=true):s=⟨#[]⟩:=by
 have:=List.isEmpty_iff.1 h;exact Ald this
theorem Tf {x:Sc} (h:A4 x=true):x=AJ\/x=⟨1,1,⟨#[]⟩⟩\/x=⟨1,0,⟨#[]⟩⟩\/(∃ n:Int,x=⟨2,n,⟨#[]⟩⟩/\ -999999999999999<=n/\n<=999999999999999)\/(∃ s:ByteArray,x=⟨3,0,s⟩/\validD s.data.toList=true):=by
 obtain⟨k,n,s⟩:=x;unfold A4 at h;simp only at h;split at h
 ·rename_i hk;simp only[Bool.and_eq_true,beq_iff_eq] at h;left;rw[hk,h.1,Oa h.2];rfl
 ·split at h
  ·rename_i hk;simp only[Bool.and_eq_true,Bool.or_eq_true,beq_iff_eq] at h;rw[hk,Oa h.1];rcases h.2 with h2 | h2
   ·right;right;left;rw[h2]
   ·right;left;rw[h2]
  ·split at h
   ·rename_i hk;simp only[Bool.and_eq_true,decide_eq_true_eq] at h;right;right;right;left;exact⟨n,by rw[hk,Oa h.1],h.2.1,h.2.2⟩
   ·split at h
    ·rename_i hk;simp only[Bool.and_eq_true,beq_iff_eq] at h;right;right;right;right;exact⟨s,by rw[hk,h.1],h.2⟩
    ·cases h
end
end Go.Proofs.YtdpppepmkeinaaaGreatDoor
