/- What is proved: a part of the walk of the program and of its plain laws; no condition beside those that each theorem names. -/
import Derived.Test.YtdpppepmkeinaaaGreatDoorYt
import Derived.Test.YtdpppepmkeinaaaGreatDoorYm
import Derived.Test.YtdpppepmkeinaaaGreatDoorYp
import Derived.Test.YtdpppepmkeinaaaGreatDoorYg
import Derived.Test.YtdpppepmkeinaaaGreatDoorYo
import Derived.Test.YtdpppepmkeinaaaGreatDoorYa
namespace Go.Proofs.YtdpppepmkeinaaaGreatDoor
open Go Go.RowKit Go.Lib
open Go.Value renaming int->I,string->Q,slice->Z
open Go.IntKind renaming i64->J
open Option renaming none->O,some->F
open _root_.Go renaming World->Y
set_option linter.unusedSimpArgs false
set_option linter.unusedVariables false
set_option linter.unusedSectionVars false
section
set_option maxRecDepth 100000
def vwL (x:Nd) (kv iv:Value) (n:Int):List Value:=[I J x.kind,I J x.x.kind,I J x.x.num,Q x.x.str,kv,iv,I J n]
theorem JR (x:Nd) (A B:Option Addr) (kl kc il ic:Nat) (n:Int) (w:Y):
  Calls Tryz.prog 141 #[.agg (vwL x (Z A kl kc) (Z B il ic) n).toArray] w fun e w'=>e=.returned (.bool (decide (kl=il)))/\Below w.heap.size w w':=by
 refine V.enter _ Tryz.func141 (Mem.start (C:=Ao) w) ?_
 repeat (first | refine W ?_ | refine R.new fun _ _=>?_)
 refine V.end fun w' h'=>?_;exact⟨by rw[<- MQ];rfl,h'.1.below⟩
theorem Yd (rt:Sc->Bool) (x:Nd) (A B:Option Addr) (kl kc il ic:Nat) (n:Int) (w:Y) (hR:A7 139 rt x.x w):
  Calls Tryz.prog 97 #[.agg (vwL x (Z A kl kc) (Z B il ic) n).toArray] w fun e w'=>e=.returned (.bool (WQ rt x.x kl il))/\Below w.heap.size w w':=by
 refine V.enter _ Tryz.func97 (Mem.start (C:=Ao) w) ?_
 repeat (first | refine W ?_ | refine R.new fun _ _=>?_)
 refine R.c (fun w' h'=>hR w' h'.1.below) ?_
 repeat refine W ?_
 refine R.bs fun b hb=>?_;refine R.c (fun w' h'=>Ht b 0 3 [rt x.x,(kl:Int)==0,(il:Int)==0] w' (Cs.of_blk (h'.blk (List.Mem.head _))) (by simp)) ?_
 repeat refine W ?_
 refine V.end fun w' h'=>?_;exact⟨by rw[VJ,show((kl:Int)==0)=decide (kl=0) from MQ kl 0,show((il:Int)==0)=decide (il=0) from MQ il 0];rfl,h'.1.below⟩
theorem ZQ (S:Nat->Prop) (x:Nd) (A B:Option Addr) (kl kc ic:Nat) (n:Nat) (w:Y) (hI:GT w S B x.kids) (hn:x.kids.length<=1000000):
  Calls Tryz.prog 98 #[.agg (vwL x (Z A kl kc) (Z B x.kids.length ic) n).toArray] w fun e w'=>e=.returned (.bool (decide (x.x=A4)&&decide (kl=0)&&x.kids.all (Sg n)))/\Below w.heap.size w w':=by
 refine V.enter _ Tryz.func98 (Mem.start (C:=Ao) w) ?_
 repeat (first | refine W ?_ | refine R.new fun _ _=>?_)
 refine R.bin (ZY x.x A4) ?_
 repeat refine W ?_
 refine R.c (fun w' h'=>Ki S x.kind x.x.kind x.x.num n x.x.str (Z A kl kc) B ic x.kids w' (hI.to fun b o v hb hv=>⟨h'.1.cell hv (fun e=>e),hb⟩) hn) ?_
 repeat refine W ?_
 refine R.bs fun b hb=>?_;refine R.c (fun w' h'=>Ht b 0 3 [decide (x.x=A4),(kl:Int)==0,x.kids.all (Sg n)] w' (Cs.of_blk (h'.blk (List.Mem.head _))) (by simp)) ?_
 repeat refine W ?_
 refine V.end fun w' h'=>?_;exact⟨by rw[VJ,show((kl:Int)==0)=decide (kl=0) from MQ kl 0];rfl,h'.1.below⟩
theorem Yc (S:Nat->Prop) (rt:Sc->Bool) (x:Nd) (A B:Option Addr) (kc ic:Nat) (n:Nat) (w:Y) (hK:Fk w S A x.keys) (hI:GT w S B x.kids) (hk:x.keys.length<=1000000) (hn:x.kids.length<=1000000) (hR:∀ y∈x.keys,A7 139 rt y w)
  (hD:∀ w1,Below w.heap.size w w1->Calls Tryz.prog 157 #[Z A x.keys.length kc] w1 fun e w'=>e=.returned (.bool (!decide x.keys.Nodup))/\Below w1.heap.size w1 w'):
  Calls Tryz.prog 99 #[.agg (vwL x (Z A x.keys.length kc) (Z B x.kids.length ic) n).toArray] w fun e w'=>e=.returned (.bool (decide (x.x=A4)&&decide (x.keys.length=x.kids.length)&&(x.keys.all rt&&decide x.keys.Nodup)&&x.kids.all (Sg n)))/\Below w.heap.size w w':=by
 refine V.enter _ Tryz.func99 (Mem.start (C:=Ao) w) ?_
 repeat (first | refine W ?_ | refine R.new fun _ _=>?_)
 refine R.bin (ZY x.x A4) ?_
 repeat refine W ?_
 refine R.c (fun w' h'=>JR x A B x.keys.length kc x.kids.length ic n w') ?_;refine R.c (fun w' h'=>Qv S rt (!decide x.keys.Nodup) x.kind x.x A kc x.keys (Z B x.kids.length ic) n w' (hK.to fun b o v hb hv=>⟨h'.1.cell hv (fun e=>e),hb⟩) hk (fun y hy=>(hR y hy).to h'.1.below) (fun w1 hw1=>hD w1 (h'.1.below.trans (hw1.mono h'.1.size)))) ?_;refine R.c (fun w' h'=>Ki S x.kind x.x.kind x.x.num n x.x.str (Z A x.keys.length kc) B ic x.kids w' (hI.to fun b o v hb hv=>⟨h'.1.cell hv (fun e=>e),hb⟩) hn) ?_;refine R.bs fun b hb=>?_;refine R.c (fun w' h'=>Ht b 0 4 [decide (x.x=A4),decide (x.keys.length=x.kids.length),x.keys.all rt&&decide x.keys.Nodup,x.kids.all (Sg n)] w' (Cs.of_blk (h'.blk (List.Mem.head _))) (by simp)) ?_
 repeat refine W ?_
 refine V.end fun w' h'=>?_;exact⟨by rw[Afx];rfl,h'.1.below⟩
theorem SZ (S:Nat->Prop) (rt:Sc->Bool) (x:Nd) (A B:Option Addr) (kc ic:Nat) (n:Nat) (w:Y) (hK:Fk w S A x.keys) (hI:GT w S B x.kids) (hk:x.keys.length<=1000000) (hn:x.kids.length<=1000000) (hx:A7 139 rt x.x w) (hR:∀ y∈x.keys,A7 139 rt y w)
  (hD:∀ w1,Below w.heap.size w w1->Calls Tryz.prog 157 #[Z A x.keys.length kc] w1 fun e w'=>e=.returned (.bool (!decide x.keys.Nodup))/\Below w1.heap.size w1 w'):
  Calls Tryz.prog 65 #[.agg (vwL x (Z A x.keys.length kc) (Z B x.kids.length ic) n).toArray] w fun e w'=>e=.returned (.bool (Fb rt n x))/\Below w.heap.size w w':=by
 obtain⟨k,xx,ks,is⟩:=x;have hc:k=0\/k=1\/k=2\/k<0\/3<=k:=by omega
 refine V.enter _ Tryz.func65 (Mem.start (C:=Ao) w) ?_
 repeat (first | refine W ?_ | refine R.new fun _ _=>?_)
 rcases hc with rfl | rfl | rfl | hk0 | hk3
 ·refine R.yes 9 (p:=(0:Int)<=0) (by decide) ?_
  repeat refine W ?_
  refine R.c (fun w' h'=>Yd rt ⟨0,xx,ks,is⟩ A B ks.length kc is.length ic n w' (hx.to h'.1.below)) ?_
  repeat refine W ?_
  refine V.end fun w' h'=>?_;exact⟨by simp[one,Fb,WQ],h'.1.below⟩
 ·refine R.yes 9 (p:=(0:Int)<=1) (by decide) ?_
  repeat refine W ?_
  refine R.c (fun w' h'=>ZQ S ⟨1,xx,ks,is⟩ A B ks.length kc ic n w' (hI.to fun b o v hb hv=>⟨h'.1.cell hv (fun e=>e),hb⟩) hn) ?_
  repeat refine W ?_
  refine V.end fun w' h'=>?_;exact⟨by simp[one,Fb],h'.1.below⟩
 ·refine R.yes 9 (p:=(0:Int)<=2) (by decide) ?_
  repeat refine W ?_
  refine R.c (fun w' h'=>Yc S rt ⟨2,xx,ks,is⟩ A B kc ic n w' (hK.to fun b o v hb hv=>⟨h'.1.cell hv (fun e=>e),hb⟩) (hI.to fun b o v hb hv=>⟨h'.1.cell hv (fun e=>e),hb⟩) hk hn (fun y hy=>(hR y hy).to h'.1.below) (fun w1 hw1=>hD w1 (h'.1.below.trans (hw1.mono h'.1.size)))) ?_
  repeat refine W ?_
  refine V.end fun w' h'=>?_;exact⟨by simp[one,Fb],h'.1.below⟩
 ·refine R.no 9 (p:=0<=k) (by omega) ?_
  repeat refine W ?_
  refine V.end fun w' h'=>?_;exact⟨by simp[one,Fb,show k≠0 by omega,show k≠1 by omega,show k≠2 by omega],h'.1.below⟩
 ·refine R.yes 9 (p:=0<=k) (by omega) ?_
  repeat refine W ?_
  refine R.no 15 (p:=k<3) (by omega) ?_
  repeat refine W ?_
  refine V.end fun w' h'=>?_;exact⟨by simp[one,Fb,show k≠0 by omega,show k≠1 by omega,show k≠2 by omega],h'.1.below⟩
theorem CL.rows {w:Y} {S:Nat->Prop} {A:Option Addr} {ns:List Nd} (h:CL w S A ns):∀ m,m<=ns.length->∃ rows:List KL,rows.length=m/\∀ k r,rows[k]? =F r->∃ x,ns[k]? =F x/\r.cells=NP x (Z r.ka x.keys.length r.kc) (Z r.ia x.kids.length r.ic)/\Fk w S r.ka x.keys/\GT w S r.ia x.kids/\∃ b o,A=F ⟨b,o,O⟩/\S b/\Cs w b (o+k*6) r.cells
 | 0,_=>⟨[],rfl,fun k r hk=>by cases hk⟩
 | m+1,hm=>by
  obtain⟨rows,hl,hr⟩:=CL.rows h m (by omega);obtain⟨x,hx⟩:∃ x,ns[m]? =F x:=⟨_,List.getElem?_eq_getElem (by omega)⟩
  obtain⟨b,o,KA,kc,IA,ic,e,hb,hcs,hk,hi⟩:=h m x hx;refine⟨rows++[⟨x.kind,x.x.kind,x.x.num,x.x.str,KA,x.keys.length,kc,IA,x.kids.length,ic⟩],by simp[hl],fun k r hkr=>?_⟩;by_cases hlt:k<rows.length
  ·rw[List.getElem?_append_left hlt] at hkr;exact hr k r hkr
  ·rw[List.getElem?_append_right (by omega)] at hkr;have hk0:k - rows.length=0:=by
    cases hd:k - rows.length with
    | zero=>rfl
    | succ j=>rw[hd] at hkr;cases hkr
   rw[hk0] at hkr;cases hkr
   obtain rfl:k=m:=by omega
   exact⟨x,hx,rfl,hk,hi,b,o,e,hb,hcs⟩
def IZ (rt:Sc->Bool) (g:Gf):Int×Int:=if 200<g.nodes.length then (0,71) else if ¬(0<=g.root/\g.root<g.nodes.length) then (-1,70) else
 match (List.range g.nodes.length).find? (fun i=> !Fb rt g.nodes.length (g.nodes.getD i ⟨0,A4,[],[]⟩)) with
 | some i=>((i:Int),70)
 | none=>(0,0)
def wrG (p:Int×Int):Value:=if p.2=0 then .nilIface else wrV p.1 p.2
def DF (w:Y) (S:Nat->Prop):Prop:=∀ w1 A c ks,Below w.heap.size w w1->Fk w1 S A ks->ks.length<=1000000->Calls Tryz.prog 157 #[Z A ks.length c] w1 fun e w'=>e=.returned (.bool (!decide ks.Nodup))/\Below w1.heap.size w1 w'
def SmN (ns:List Nd):Prop:=ns.length<=1000000/\∀ x∈ns,x.keys.length<=1000000/\x.kids.length<=1000000
theorem SP (S:Nat->Prop) (rt:Sc->Bool) (g:Gf) (A:Option Addr) (c:Nat) (w:Y) (h:CL w S A g.nodes) (hsm:SmN g.nodes) (hR:∀ x∈g.nodes,A7 139 rt x.x w/\∀ y∈x.keys,A7 139 rt y w) (hD:DF w S):
  Calls Tryz.prog 44 #[Eh A c g] w fun e w'=>e=.returned (wrG (IZ rt g))/\Below w.heap.size w w':=by
 obtain⟨rows,hl,hr⟩:=CL.rows h g.nodes.length Nr;have hc:=X2 g.root A c rows (fun i=>Fb rt g.nodes.length (g.nodes.getD i ⟨0,A4,[],[]⟩)) w (fun k r hk=>by
  obtain⟨x,_,_,_,_,b,o,e,_,hcs⟩:=hr k r hk;exact⟨b,o,e,hcs,fun e=>e⟩) (by rw[hl];exact hsm.1) (fun k r hk W hW=>by
  obtain⟨x,hx,hcl,Se,hi1,_⟩:=hr k r hk;have hst:=fun b o v (hb:S b) (hv:w.cell? ⟨b,o,O⟩=F v)=>(show W.cell? ⟨b,o,O⟩=F v/\S b from⟨(AI.of_below (C:=Ao) hW).cell hv (fun e=>e),hb⟩)
  have hs2:=hsm.2 x (List.mem_of_getElem? hx);have:=SZ S rt x r.ka r.ia r.kc r.ic g.nodes.length W (Se.to hst) (hi1.to hst) hs2.1 hs2.2 ((hR x (List.mem_of_getElem? hx)).1.to hW) (fun y hy=>((hR x (List.mem_of_getElem? hx)).2 y hy).to hW) (fun w1 hw1=>hD w1 _ _ _ (hW.trans (hw1.mono hW.size)) ((Se.to hst).to fun b o v hb hv=>⟨(AI.of_below (C:=Ao) hw1).cell hv (fun e=>e),hb⟩) hs2.1);rw[hcl,hl];have e2:g.nodes.getD k ⟨0,A4,[],[]⟩=x:=by rw[List.getD,hx];rfl
  rw[e2];exact this)
 rw[hl] at hc;refine hc.mono ?_;rintro e w' ⟨rfl,hb⟩;refine⟨?_,hb⟩;congr 1;unfold wrG IZ CW;split
 ·rfl
 ·split
  ·rfl
  ·split
   ·rename_i i hi;rw[hi];rfl
   ·rename_i hi;rw[hi];rfl
end
section
set_option maxHeartbeats 8000000
set_option maxRecDepth 100000
structure Ae8 (wB:Y) (rt:Sc->Bool) (nb:ByteArray->Bool) (nm:ByteArray) (x:Sc) (ks:List Sc) (n:Nat):Prop where
 right:A7 139 rt x wB
 rights:∀ y∈ks,A7 139 rt y wB
 name:∀ w1,Below wB.heap.size wB w1->Calls Tryz.prog 17 #[Q nm] w1 fun e w'=>e=.returned (.bool (nb nm))/\Below w1.heap.size w1 w'
 keys:ks.length<=1000000
 kids:n<=1000000
theorem RH (S:Nat->Prop) (A:Option Addr) (c:Nat) (ks:List Sc) (w:Y) (h:Fk w S A ks) (hn:ks.length<=1000000):
  Calls Tryz.prog 114 #[Z A ks.length c] w fun e w'=>∃ q:Option Addr×Nat,e=.returned (Z q.1 ks.length q.2)/\Fr w w' [K4 (Z q.1 ks.length q.2) ks]:=
 (RQ S A c ks w h hn).mono fun e w' ⟨v,he,hf⟩=>by
  have hf2:=hf;obtain⟨_,Fz,⟨A',c',rfl,_⟩,_⟩:=hf2;exact⟨(A',c'),he,hf⟩
theorem NT.refl:∀ A:List Aj,NT A A
 | []=>.nil
 | _::A=>.cons .hd (NT.refl A)
theorem Aad {ct nt it:TypeId} {c:Nat} {s:St} {C:Nat->Prop} {w0 w:Y} {Z0:List Aj} (k:Int) (nm:ByteArray) (x:Sc) (ks:List Sc) (nb:Nat) (L:Value) (vs:List (Value×Value)) (kv:Value) (hl:vs.length=s.nodes.length) (hn:s.nodes.length<200)
  (h:Mem C w0 ([K4 kv ks,blk c [I J 0,L,.map (F nb)] ct,K9 Value.string nb (AS (Value.int .i64) (s.node k nm x ks).names),Af nt 6 L (s.nodes.length+1) (AU s.nodes vs++NP ⟨k,x,ks,[]⟩ kv (Z O 0 0)),star (E4 it s.nodes vs)]++Z0) w):Mem C w0 (XF ct nt it c (s.node k nm x ks)::Z0) w:=by
 have hln:(s.node k nm x ks).nodes.length=s.nodes.length+1:=by simp[St.node]
 obtain⟨e1,e2⟩:=KS (it:=it) s.nodes vs ⟨k,x,ks,[]⟩ (kv,Z O 0 0) hl;refine GF (nb,L,vs++[(kv,Z O 0 0)]) ?_;have h2:=h.ownNil it 1;have h3:Mem C w0 (star (E4 it s.nodes vs)::([K4 kv ks,Af it 1 (Z O 0 0) 0 []]++([blk c [I J 0,L,.map (F nb)] ct,K9 Value.string nb (AS (Value.int .i64) (s.node k nm x ks).names),Af nt 6 L (s.nodes.length+1) (AU s.nodes vs++NP ⟨k,x,ks,[]⟩ kv (Z O 0 0))]++Z0))) w:=h2.sel (.cons (.tl (.tl (.tl (.tl (.tl .hd))))) (.cons (.tl .hd) (.cons .hd (NT.refl _))));have h4:=E0 h3;rw[show([K4 kv ks,Af it 1 (Z O 0 0) 0 []]:List Aj)=[K4 (kv,Value.slice O 0 0).1 (⟨k,x,ks,[]⟩:Nd).keys,Af it 1 (kv,Value.slice O 0 0).2 (⟨k,x,ks,[]⟩:Nd).kids.length ((⟨k,x,ks,[]⟩:Nd).kids.map (I J))] from rfl,<- e2] at h4;have h5:=h4.pr (p:=(vs++[(kv,Value.slice O 0 0)]).length=(s.node k nm x ks).nodes.length/\(s.node k nm x ks).nodes.length<=200) ⟨by rw[hln,List.length_append,hl];rfl,by omega⟩;rw[hln] at h5;unfold WW;dsimp only
 rw[hln,show(s.node k nm x ks).nodes=s.nodes++[⟨k,x,ks,[]⟩] from rfl,e1];exact h5.sel (.cons (.tl (.tl .hd)) (.cons (.tl (.tl .hd)) (.cons (.tl (.tl .hd)) (.cons (.tl .hd) (NT.refl _)))))
theorem JE (z:Value) (o:Option Value):XZ false z o=o.getD z:=by cases o<;>rfl
theorem Agj (wB:Y) (rt:Sc->Bool) (nb:ByteArray->Bool) (k:Int) (nm:ByteArray) (x:Sc) (ks:List Sc) (ts:List Tr) (hK:∀ (i:Nat) kid,ts[i]? =F kid->Abl wB rt nb kid) (hP:Ae8 wB rt nb nm x ks ts.length) (hTw:DF wB (fun b=>b<wB.heap.size)):Abl wB rt nb (.mk k nm x ks ts):=by
 intro deep s c w vs hT hB hd hd2 Fz hX hF hQ;unfold Cm at hT;obtain⟨KA,kc,TA,tc,rfl,hKs,hTs⟩:=hT;have stay:∀ w',Below wB.heap.size wB w'->∀ b o v,b<wB.heap.size->wB.cell? ⟨b,o,O⟩=F v->w'.cell? ⟨b,o,O⟩=F v/\b<wB.heap.size:=fun w' h' b o v hb hv=>⟨(AI.of_below (C:=Ao) h').cell hv (fun e=>e),hb⟩
 have hvis:(A3 nm (AS (Value.int .i64) s.names)).isSome=(A3 nm s.names).isSome:=by rw[D1];cases A3 nm s.names<;>rfl
 refine V.enter _ Tryz.func74 (Mem.startX hX hF) ?_;refine W ?_;refine R.new fun b3 h3=>?_;refine R.new fun b4 h4=>?_;refine R.new fun b5 h5=>?_
 repeat refine W ?_
 refine R.c (v:=cErr (BU rt nb (.mk k nm x ks ts) deep s)) (fun w' h'=>?_) ?_
 ·obtain⟨h200,nb2,LA,lc,hc,hm⟩:=WG h' (List.Mem.tail _ (List.Mem.tail _ (List.Mem.tail _ (List.Mem.head _))));have hBw:=AI.belowB hB hQ h'.1;have:=SW c nb2 0 LA s.nodes.length lc (AS (Value.int .i64) s.names) (CH rt (nb nm) k nm x ks ts.length) (!decide ks.Nodup) k deep nm x KA ks.length kc (Z TA ts.length tc) w' hc hm
   (fun w1 hw1=>by
    have hB1:=hBw.trans (hw1.mono hBw.size);exact PK (fun b=>b<wB.heap.size) rt (nb nm) k nm x KA TA kc ts.length tc ks w1 (hKs.to (stay w1 hB1)) hP.keys (hP.right.to hB1) (fun y hy=>(hP.rights y hy).to hB1) (fun w2 hw2=>hP.name w2 (hB1.trans (hw2.mono hB1.size))))
   (fun w1 hw1=>by
    have hB1:=hBw.trans (hw1.mono hBw.size);exact hTw w1 KA kc ks hB1 (hKs.to (stay w1 hB1)) hP.keys)
  rw[hvis] at this;exact this
 iterate 2 refine W ?_
 by_cases h0:BU rt nb (.mk k nm x ks ts) deep s=0
 ·refine V.re 8 (v:=cErr (BU rt nb (.mk k nm x ks ts) deep s)) (v':=.nilIface) (by rw[h0];rfl) ?_
  repeat refine W ?_
  refine V.if (fun hk=>?_) (fun hk=>?_)
  ·have hk:k=3:=by simpa using hk
   have hr:Cy (BU rt nb) deep (.mk k nm x ks ts) s=(s,(A3 nm s.names).getD 0,0):=by unfold Cy;rw[if_pos h0,if_pos hk]
   rw[hr];refine V.any (fun w' h'=>I9 h' (Pk.tl (Pk.tl (Pk.tl Pk.hd)))) (fun q=>?_);obtain⟨nb2,L,vs2⟩:=q;show V _ _ _ _ _ _ (Mem Fz w [blk c [I J 0,L,.map (F nb2)] 162,K9 Value.string nb2 (AS (Value.int .i64) s.names),Af 40 6 L s.nodes.length (AU s.nodes vs2),star (E4 3 s.nodes vs2),pr (vs2.length=s.nodes.length/\s.nodes.length<=200),blk b5 [I J deep] 3,blk b4 (Ov k nm x (Z KA ks.length kc) (Z TA ts.length tc)) _,blk b3 [.pointer (F ⟨c,0,O⟩)] 159]) _
   repeat refine W ?_
   refine R.look (e:=3) nm Ahz ?_;refine R.re 32 (v:=XZ false (I J 0) (A3 nm (AS (Value.int .i64) s.names))) (v':=I J ((A3 nm s.names).getD 0)) (by rw[JE,D1];cases A3 nm s.names<;>rfl) ?_
   repeat refine W ?_
   refine V.end fun w' h'=>?_;exact⟨(),rfl,Mem.toW (GF (nb2,L,vs2) h'.sel)⟩
  ·have hk:k≠3:=by simpa using hk
   obtain⟨hd24,_,_,_,h200⟩:=chkE_ok (show IS (CH rt (nb nm) k nm x ks ts.length) (!decide ks.Nodup) k deep (A3 nm s.names).isSome s.nodes.length=0 from h0);have h200:=h200 hk;obtain⟨s1,hs1⟩:∃ s1,s.node k nm x ks=s1:=⟨_,rfl⟩
   obtain⟨rK,hrK⟩:∃ rK,EJ (BU rt nb) deep s.nodes.length ts s1=rK:=⟨_,rfl⟩
   have hr:Cy (BU rt nb) deep (.mk k nm x ks ts) s=if rK.2=0 then (rK.1,(s.nodes.length:Int),0) else (rK.1,0,rK.2):=by unfold Cy;rw[if_pos h0,if_neg hk,hs1];dsimp only;rw[hrK]
   rw[hr];refine V.any (fun w' h'=>I9 h' (Pk.tl (Pk.tl (Pk.tl Pk.hd)))) (fun q=>?_);obtain⟨nb2,L,vs2⟩:=q;show V _ _ _ _ _ _ (Mem Fz w [blk c [I J 0,L,.map (F nb2)] 162,K9 Value.string nb2 (AS (Value.int .i64) s.names),Af 40 6 L s.nodes.length (AU s.nodes vs2),star (E4 3 s.nodes vs2),pr (vs2.length=s.nodes.length/\s.nodes.length<=200),blk b5 [I J deep] 3,blk b4 (Ov k nm x (Z KA ks.length kc) (Z TA ts.length tc)) _,blk b3 [.pointer (F ⟨c,0,O⟩)] 159]) _;refine V.prop (p:=vs2.length=s.nodes.length/\s.nodes.length<=200) fun hp=>?_;refine V.know (p:=∃ LA lc,L=Z LA s.nodes.length lc) (fun w' h'=>(AL h' (List.Mem.tail _ (List.Mem.tail _ (List.Mem.head _)))).elim (fun⟨e,e0⟩=>⟨O,0,by rw[e,e0]⟩) (fun⟨g,c,e⟩=>⟨_,c,e⟩)) fun hL2=>?_;obtain⟨LA,lc,rfl⟩:=hL2
   repeat refine W ?_
   refine R.new fun b9 h9=>?_;iterate 3 refine W ?_
   refine Zz.on (Mem Fz w [blk c [I J 0,Z LA s.nodes.length lc,.map (F nb2)] 162,blk b4 (Ov k nm x (Z KA ks.length kc) (Z TA ts.length tc)) 165,blk b3 [.pointer (F ⟨c,0,O⟩)] 159]) ?_
   repeat refine Wz ?_
   refine Zz.cf (fun w' h'=>RH (fun b=>b<wB.heap.size) KA kc ks w' (hKs.to (stay w' (AI.belowB hB hQ h'.1))) hP.keys) (fun q2=>?_)
   repeat refine Wz ?_
   refine Zz.bs fun bn hbn=>?_;refine Zz.app elN (k:=s.nodes.length) (m:=1) (xs:=AU s.nodes vs2) (news:=NP ⟨k,x,ks,[]⟩ (Z q2.1 ks.length q2.2) (Z O 0 0)) (fun w' h'=>(Cs.of_blk (h'.blk (List.Mem.head _))).add) (by omega) (fun LA2 lc2=>?_);refine Zz.off (fun w' h'=>h'.sel) ?_
   repeat refine W ?_
   refine W ?_ (by exact R.st (hp:=.inr (.inl ⟨rfl,by kernel_rfl⟩)))
   repeat refine W ?_
   have hkn:=hP.kids;have hloop:s.nodes.length<200:=by omega
   have hcl:∀ (S':List Aj) (w':Y),Mem Fz w ([K4 (Z q2.1 ks.length q2.2) ks,blk c [I J 0,Z LA2 (s.nodes.length+1) lc2,.map (F nb2)] 162,K9 Value.string nb2 (AS (Value.int .i64) s1.names),Af 40 6 (Z LA2 (s.nodes.length+1) lc2) (s.nodes.length+1) (AU s.nodes vs2++NP ⟨k,x,ks,[]⟩ (Z q2.1 ks.length q2.2) (Z O 0 0)),star (E4 3 s.nodes vs2)]++S') w'->Mem Fz w (R9 c s1::S') w':=fun S' w' h'=>by
    subst hs1;exact Aad (nt:=40) (it:=3) k nm x ks nb2 _ vs2 _ hp.1 hloop h'
   have hrK0:EJ (BU rt nb) deep s.nodes.length (ts.drop 0) s1=rK:=hrK;have hs1n:(s1.nodes[s.nodes.length]?).map (·.kids.length)=F 0:=by rw[<- hs1];simp[St.node]
   clear hr;refine V.if (fun hn=>?_) (fun hn=>?_)
   ·have hnm:s1.names=mput nm (s.nodes.length:Int) s.names:=by rw[<- hs1];unfold St.node;rw[if_neg (by simpa using hn)]
    repeat refine W ?_
    refine R.mput (e:=3) nm Ahz (hp:=.inr (.inl ⟨rfl,by kernel_rfl⟩)) ?_
    repeat refine W ?_
    refine V.pre (S':=Mem Fz w [star (MA c b3 b5 b9 s.nodes.length deep s1)]) ?_ (fun w' h'=>?_)
    ·refine V.loop (ι:=Nat×St) (fun p=>p.1<=ts.length/\EJ (BU rt nb) deep s.nodes.length (ts.drop p.1) p.2=rK/\(p.2.nodes[s.nodes.length]?).map (·.kids.length)=F p.1) (fun p=>Mem Fz w [star (MA c b3 b5 b9 s.nodes.length deep p.2)]) (fun p=>[(78,I J p.1),(77,I J ts.length),(76,Z TA ts.length tc),(10,.func (.func 115) #[] #[.pointer (F ⟨b3,0,O⟩),.pointer (F ⟨b5,0,O⟩),.pointer (F ⟨b9,0,O⟩)]),(9,.pointer (F ⟨b9,0,O⟩))]) (fun p=>ts.length - p.1) (0,s1) ⟨Nat.zero_le _,hrK0,hs1n⟩ (fun w h=>h) ⟨rfl,rfl,rfl,rfl,rfl,trivial⟩ ?_;rintro⟨i,st⟩ ⟨hi,hlay,hst⟩;dsimp only at hi hlay hst
     repeat refine W ?_
     refine V.ifp (fun hlt=>?_) (fun hge=>?_)
     ·have hlt:i<ts.length:=by omega
      obtain⟨kid,hkid⟩:∃ kid,ts[i]? =F kid:=⟨_,List.getElem?_eq_getElem hlt⟩
      obtain⟨tb,tq,us,rfl,htb,hus,htr⟩:=TsV.get hTs hkid;rw[Nat.zero_add] at hus;obtain⟨k',nm',x',ks',ts',hke⟩:∃ k' nm' x' ks' ts',kid=.mk k' nm' x' ks' ts':=by cases kid;exact⟨_,_,_,_,_,rfl⟩
      have htr0:=htr;rw[hke] at htr0;unfold Cm at htr0;obtain⟨KA',kc',TA',tc',rfl,_⟩:=htr0;have husw:Cs w tb (tq+i*7) (Ov k' nm' x' (Z KA' ks'.length kc') (Z TA' ts'.length tc')):=fun j v hv=>(stay w hB tb _ v htb (hus j v hv)).1;obtain⟨r,hr⟩:∃ r,Cy (BU rt nb) (deep+1) kid st=r:=⟨_,rfl⟩
      have hdr:ts.drop i=kid::ts.drop (i+1):=by
       rw[List.drop_eq_getElem_cons hlt];rw[List.getElem?_eq_getElem hlt] at hkid;cases hkid;rfl
      rw[hdr] at hlay;unfold EJ at hlay;dsimp only at hlay;rw[hr] at hlay;have hkid2:=LW wB rt nb kid (hK i kid hkid) deep st c b3 b5 b9 s.nodes.length i;rw[hr] at hkid2
      repeat refine W ?_
      refine R.ix hlt ?_;refine R.lo 0 husw ?_ (hn:=fun h=>by have:=hQ _ h;omega);refine R.new fun b12 _=>?_
      repeat refine W ?_
      refine R.cq (fun w' h'=>hkid2 w' (Ov k' nm' x' (Z KA' ks'.length kc') (Z TA' ts'.length tc')) htr (AI.belowB hB hQ h'.1) (by omega) (by omega) hst (by have:=hP.kids;omega)) (fun G hG=>FG.of hB hQ G hG) (fun _=>?_);iterate 2 refine W ?_
      by_cases he:r.2.2=0
      ·rw[if_pos he] at hlay;refine V.re 13 (v:=cErr r.2.2) (v':=.nilIface) (by rw[he];rfl) ?_
       repeat refine W ?_
       have hlen:=(Fj (BU rt nb) kid (deep+1) st)
       rw[hr] at hlen;obtain⟨y,hy,hyi⟩:=Option.map_eq_some_iff.1 hst;have hya:r.1.nodes[s.nodes.length]? =F y:=by rw[hlen.2 _ (List.getElem?_eq_some_iff.1 hy).1];exact hy
       exact V.again (i+1,r.1.kid s.nodes.length r.2.1) rfl ⟨hlt,hlay,by unfold St.kid;dsimp only;rw[List.getElem?_modify,hya];simp;omega⟩
      ·rw[if_neg he] at hlay;refine V.re 13 (v:=cErr r.2.2) (v':=.iface 229 (.agg #[I J r.2.2])) (by unfold cErr;rw[if_neg he]) ?_
       repeat refine W ?_
       refine V.end fun w' h'=>?_;rw[<- hlay,if_neg he];exact⟨(),by unfold cErr;rw[if_neg he];rfl,Mem.toW h'.star.sel⟩
     ·have hi2:i=ts.length:=by omega
      rw[List.drop_eq_nil_of_le (by omega)] at hlay;unfold EJ at hlay;refine V.star ?_;show V _ _ _ _ _ _ (Mem Fz w [R9 c st,blk b3 [.pointer (F ⟨c,0,O⟩)] 159,blk b5 [I J deep] 3,blk b9 [I J s.nodes.length] 3]) _
      repeat refine W ?_
      refine V.end fun w' h'=>?_;rw[<- hlay,if_pos rfl];exact⟨(),rfl,Mem.toW h'.sel⟩
    ·rw[GP,<- hnm] at h';exact Mem.toStar (B:=MA c b3 b5 b9 s.nodes.length deep s1) (A:=[]) (hcl [blk b3 [.pointer (F ⟨c,0,O⟩)] 159,blk b5 [I J deep] 3,blk b9 [I J s.nodes.length] 3] w' h'.sel).sel
   ·have hnm:s1.names=s.names:=by rw[<- hs1];unfold St.node;rw[if_pos (by simpa using hn)]
    repeat refine W ?_
    refine V.pre (S':=Mem Fz w [star (MA c b3 b5 b9 s.nodes.length deep s1)]) ?_ (fun w' h'=>?_)
    ·refine V.loop (ι:=Nat×St) (fun p=>p.1<=ts.length/\EJ (BU rt nb) deep s.nodes.length (ts.drop p.1) p.2=rK/\(p.2.nodes[s.nodes.length]?).map (·.kids.length)=F p.1) (fun p=>Mem Fz w [star (MA c b3 b5 b9 s.nodes.length deep p.2)]) (fun p=>[(78,I J p.1),(77,I J ts.length),(76,Z TA ts.length tc),(10,.func (.func 115) #[] #[.pointer (F ⟨b3,0,O⟩),.pointer (F ⟨b5,0,O⟩),.pointer (F ⟨b9,0,O⟩)]),(9,.pointer (F ⟨b9,0,O⟩))]) (fun p=>ts.length - p.1) (0,s1) ⟨Nat.zero_le _,hrK0,hs1n⟩ (fun w h=>h) ⟨rfl,rfl,rfl,rfl,rfl,trivial⟩ ?_;rintro⟨i,st⟩ ⟨hi,hlay,hst⟩;dsimp only at hi hlay hst
     repeat refine W ?_
     refine V.ifp (fun hlt=>?_) (fun hge=>?_)
     ·have hlt:i<ts.length:=by omega
      obtain⟨kid,hkid⟩:∃ kid,ts[i]? =F kid:=⟨_,List.getElem?_eq_getElem hlt⟩
      obtain⟨tb,tq,us,rfl,htb,hus,htr⟩:=TsV.get hTs hkid;rw[Nat.zero_add] at hus;obtain⟨k',nm',x',ks',ts',hke⟩:∃ k' nm' x' ks' ts',kid=.mk k' nm' x' ks' ts':=by cases kid;exact⟨_,_,_,_,_,rfl⟩
      have htr0:=htr;rw[hke] at htr0;unfold Cm at htr0;obtain⟨KA',kc',TA',tc',rfl,_⟩:=htr0;have husw:Cs w tb (tq+i*7) (Ov k' nm' x' (Z KA' ks'.length kc') (Z TA' ts'.length tc')):=fun j v hv=>(stay w hB tb _ v htb (hus j v hv)).1;obtain⟨r,hr⟩:∃ r,Cy (BU rt nb) (deep+1) kid st=r:=⟨_,rfl⟩
      have hdr:ts.drop i=kid::ts.drop (i+1):=by
       rw[List.drop_eq_getElem_cons hlt];rw[List.getElem?_eq_getElem hlt] at hkid;cases hkid;rfl
      rw[hdr] at hlay;unfold EJ at hlay;dsimp only at hlay;rw[hr] at hlay;have hkid2:=LW wB rt nb kid (hK i kid hkid) deep st c b3 b5 b9 s.nodes.length i;rw[hr] at hkid2
      repeat refine W ?_
      refine R.ix hlt ?_;refine R.lo 0 husw ?_ (hn:=fun h=>by have:=hQ _ h;omega);refine R.new fun b12 _=>?_
      repeat refine W ?_
      refine R.cq (fun w' h'=>hkid2 w' (Ov k' nm' x' (Z KA' ks'.length kc') (Z TA' ts'.length tc')) htr (AI.belowB hB hQ h'.1) (by omega) (by omega) hst (by have:=hP.kids;omega)) (fun G hG=>FG.of hB hQ G hG) (fun _=>?_);iterate 2 refine W ?_
      by_cases he:r.2.2=0
      ·rw[if_pos he] at hlay;refine V.re 13 (v:=cErr r.2.2) (v':=.nilIface) (by rw[he];rfl) ?_
       repeat refine W ?_
       have hlen:=(Fj (BU rt nb) kid (deep+1) st)
       rw[hr] at hlen;obtain⟨y,hy,hyi⟩:=Option.map_eq_some_iff.1 hst;have hya:r.1.nodes[s.nodes.length]? =F y:=by rw[hlen.2 _ (List.getElem?_eq_some_iff.1 hy).1];exact hy
       exact V.again (i+1,r.1.kid s.nodes.length r.2.1) rfl ⟨hlt,hlay,by unfold St.kid;dsimp only;rw[List.getElem?_modify,hya];simp;omega⟩
      ·rw[if_neg he] at hlay;refine V.re 13 (v:=cErr r.2.2) (v':=.iface 229 (.agg #[I J r.2.2])) (by unfold cErr;rw[if_neg he]) ?_
       repeat refine W ?_
       refine V.end fun w' h'=>?_;rw[<- hlay,if_neg he];exact⟨(),by unfold cErr;rw[if_neg he];rfl,Mem.toW h'.star.sel⟩
     ·have hi2:i=ts.length:=by omega
      rw[List.drop_eq_nil_of_le (by omega)] at hlay;unfold EJ at hlay;refine V.star ?_;show V _ _ _ _ _ _ (Mem Fz w [R9 c st,blk b3 [.pointer (F ⟨c,0,O⟩)] 159,blk b5 [I J deep] 3,blk b9 [I J s.nodes.length] 3]) _
      repeat refine W ?_
      refine V.end fun w' h'=>?_;rw[<- hlay,if_pos rfl];exact⟨(),rfl,Mem.toW h'.sel⟩
    ·rw[<- hnm] at h';exact Mem.toStar (B:=MA c b3 b5 b9 s.nodes.length deep s1) (A:=[]) (hcl [blk b3 [.pointer (F ⟨c,0,O⟩)] 159,blk b5 [I J deep] 3,blk b9 [I J s.nodes.length] 3] w' h'.sel).sel
 ·have hr:Cy (BU rt nb) deep (.mk k nm x ks ts) s=(s,0,BU rt nb (.mk k nm x ks ts) deep s):=by unfold Cy;rw[if_neg h0]
  rw[hr];refine V.re 8 (v:=cErr (BU rt nb (.mk k nm x ks ts) deep s)) (v':=.iface 229 (.agg #[I J (BU rt nb (.mk k nm x ks ts) deep s)])) (by unfold cErr;rw[if_neg h0]) ?_
  repeat refine W ?_
  refine V.end fun w' h'=>?_;exact⟨(),by unfold cErr;rw[if_neg h0];rfl,Mem.toW h'.sel⟩
end
section
set_option maxHeartbeats 4000000
open Go Go.RowKit Go.Extern.Stop Go.Stop Go.Extern
set_option maxRecDepth 100000
namespace Ea
theorem Aj7 (e:Int) (p:Addr) (w:Y) (hS:ErrS w p):Calls Tryz.prog 158 #[cwV e,etV p,.bool true] w fun ev w'=>ev=.returned (.bool true)/\Below w.heap.size w w':=by
 refine V.enter _ Tryz.func158 (Mem.start (C:=Ao) w) ?_
 repeat refine W ?_
 refine V.loop (fun i:Value×Nat=>i=(cwV e,1)\/i=(etV p,0)) (fun _=>Mem Ao w []) (fun i=>[(0,i.1),(1,etV p),(2,.bool true)]) (fun i=>i.2) (cwV e,1) (.inl rfl) (fun w h=>h) ⟨rfl,rfl,rfl,trivial⟩ ?_;rintro i (rfl | rfl)
 ·iterate 5 refine W ?_
  refine R.bi (eql_diff e p) ?_
  repeat refine W ?_
  refine R.ta (Ajv _) ?_
  repeat refine W ?_
  refine R.ta (Ajq _) ?_
  repeat refine W ?_
  refine R.ci (fun w' h'=>TE e p w' (h'.1.cell hS fun e=>e)) (Alc _) (Ald _) ?_
  repeat refine W ?_
  exact V.again (etV p,0) rfl (.inr rfl)
 ·iterate 5 refine W ?_
  refine R.bi (Yy p) ?_
  repeat refine W ?_
  refine V.end fun w' h'=>?_;exact⟨rfl,h'.1.below⟩
theorem TU (e:Int) (p:Addr) (w:Y) (hS:ErrS w p):Calls Tryz.prog 116 #[cwV e,etV p] w fun ev w'=>ev=.returned (.bool true)/\Below w.heap.size w w':=by
 refine V.enter _ Tryz.func116 (Mem.start (C:=Ao) w) ?_
 repeat refine W ?_
 refine R.xp (v:=rt 382) ?_ ?_
 ·intro ρ w h hm;simp only[Op.operands,Call.operands,EV,Array.toList_append,List.toList_toArray,List.map_cons,List.map_nil,List.nil_append,List.cons_append] at h;simp[go_sem,h,QW,Acr]
 refine R.xp (v:=.bool true) ?_ ?_
 ·intro ρ w h hm;simp only[Op.operands,Call.operands,EV,Array.toList_append,List.toList_toArray,List.map_cons,List.map_nil,List.nil_append,List.cons_append] at h;simp[go_sem,h,Ahg,Ai1]
 repeat refine W ?_
 refine R.c (fun w' h'=>Aj7 e p w' (h'.1.cell hS fun e=>e)) ?_
 repeat refine W ?_
 refine V.end fun w' h'=>?_;exact⟨rfl,h'.1.below⟩
theorem c_told (e:Int) (p:Addr) (w:Y) (hg:ErrC w) (hS:ErrS w p):Calls Tryz.prog 75 #[cwV e] w fun ev w'=>ev=.returned (I J e)/\Below w.heap.size w w':=by
 refine V.enter _ Tryz.func75 (Mem.start (C:=Ao) w) ?_
 repeat refine W ?_
 refine R.new fun tb htb=>?_
 repeat refine W ?_
 refine R.lo 0 hS.cs ?_
 repeat refine W ?_
 refine R.c (fun w' h'=>TU e p w' (h'.1.cell hS fun e=>e)) ?_
 repeat refine W ?_
 refine R.cw (X:=blk tb [I J 0] 229) (v:=fun _:Unit=>.bool true) (X':=fun _=>blk tb [I J e] 229) (fun w' h'=>LS asC (vs:=[I J e]) rfl rfl rfl w' (h'.1.cell hg fun e=>e) (fun e=>by have:=FV hg;omega)) (fun _=>?_)
 repeat refine W ?_
 refine V.end fun w' h'=>?_;exact⟨rfl,h'.1.below⟩
end Ea
end
section
set_option maxHeartbeats 4000000
set_option maxRecDepth 100000
mutual
def TrP (wB:Y) (rt:Sc->Bool) (nb:ByteArray->Bool):Tr->Prop
 | .mk k nm x ks ts=>Ae8 wB rt nb nm x ks ts.length/\TsP wB rt nb ts
def TsP (wB:Y) (rt:Sc->Bool) (nb:ByteArray->Bool):List Tr->Prop
 | []=>True
 | t::r=>TrP wB rt nb t/\TsP wB rt nb r
end
mutual
theorem Ns (wB:Y) (rt:Sc->Bool) (nb:ByteArray->Bool) (hTw:DF wB (fun b=>b<wB.heap.size)):∀ t,TrP wB rt nb t->Abl wB rt nb t
 | .mk k nm x ks ts,h=>by
  unfold TrP at h;exact Agj wB rt nb k nm x ks ts (Lv wB rt nb hTw ts h.2) h.1 hTw
theorem Lv (wB:Y) (rt:Sc->Bool) (nb:ByteArray->Bool) (hTw:DF wB (fun b=>b<wB.heap.size)):∀ ts,TsP wB rt nb ts->∀ (i:Nat) kid,ts[i]? =F kid->Abl wB rt nb kid
 | [],h=>fun i kid hk=>by cases hk
 | t::r,h=>by
  unfold TsP at h;intro i kid hk
  match i,hk with
  | 0,hk=>cases hk;exact Ns wB rt nb hTw t h.1
  | i+1,hk=>exact Lv wB rt nb hTw r h.2 i kid hk
end
theorem R7 {it:TypeId} {w:Y}:∀ {ns:List Nd} {vs:List (Value×Value)} {j:Nat} {x:Nd} {p:Value×Value} {G:Nat->Prop},Bm (E4 it ns vs) w G->ns[j]? =F x->vs[j]? =F p->(∃ Fz,(∀ b,Fz b->G b)/\(K4 p.1 x.keys).is Fz w)/\∃ Fz,(∀ b,Fz b->G b)/\(isA p.2 x.kids).is Fz w
 | y::r,q::t,0,x,p,G,h,hx,hp=>by
  cases hx;cases hp
  obtain⟨Fz,h1,h2,F2,h3,h4,_⟩:=h;exact⟨⟨Fz,h2,h1⟩,F2,fun b hb=>(h4 b hb).1,Af.is' h3 rfl⟩
 | y::r,q::t,j+1,x,p,G,h,hx,hp=>by
  obtain⟨Fz,h1,h2,F2,h3,h4,h5⟩:=h;obtain⟨⟨F3,a1,a2⟩,F4,b1,b2⟩:=R7 h5 (j:=j) hx hp;exact⟨⟨F3,fun b hb=>(a1 b hb).1.1,a2⟩,F4,fun b hb=>(b1 b hb).1.1,b2⟩
 | [],_,j,x,p,G,h,hx,hp=>by cases hx
 | _::_,[],j,x,p,G,h,hx,hp=>by cases hp
theorem Zi {nt it:TypeId} {C:Nat->Prop} {w0 w:Y} {Z0:List Aj} {L:Value} {ns:List Nd} {vs:List (Value×Value)} (root:Int) (hl:vs.length=ns.length) (h:Mem C w0 (Af nt 6 L ns.length (AU ns vs)::star (E4 it ns vs)::Z0) w):Mem C w0 (Nq (.agg #[I J root,L]) ⟨root,ns⟩::Z0) w:=by
 have h9:=Mem.toStar (B:=[Af nt 6 L ns.length (AU ns vs),star (E4 it ns vs)]) h;refine⟨h9.1,h9.2.as fun Fz w hs=>?_⟩;clear h9 h;obtain⟨F1,h1,h2,F2,h3,h4,_⟩:=hs;have hL:(L=Z O 0 0/\ns.length=0)\/∃ g c,L=Z (F ⟨g,0,O⟩) ns.length c/\F1 g:=by
  rcases h1.1.2 with ⟨rfl,h0⟩ | ⟨g,cap,cur,rfl,_⟩
  ·exact .inl ⟨rfl,h0⟩
  ·exact .inr ⟨g,cap,rfl,h1.2 g rfl⟩
 rcases hL with ⟨rfl,h0⟩ | ⟨g,cap,rfl,hg⟩
 ·refine⟨O,0,by show _=Eh O 0 _;unfold Eh;rw[h0],fun j x hj=>?_⟩;have:ns=[]:=List.eq_nil_of_length_eq_zero h0;subst this;cases hj
 ·refine⟨_,cap,rfl,fun j x hj=>?_⟩;obtain⟨p,hp⟩:∃ p,vs[j]? =F p:=⟨_,List.getElem?_eq_getElem (by rw[hl];exact(List.getElem?_eq_some_iff.1 hj).1)⟩
  obtain⟨⟨F3,a1,KA,kc,hk,hks⟩,F4,b1,IA,ic,hi,his⟩:=R7 (show Bm (E4 it ns vs) w F2 from h3) hj hp;have hc:=(Af.cs h1).drop (j*6);rw[IQ ns vs j x p hl hj hp,hk,hi] at hc;exact⟨g,0,KA,kc,IA,ic,rfl,h2 g hg,fun i v hv=>hc i v (by rw[List.getElem?_append_left (List.getElem?_eq_some_iff.1 hv).1];exact hv),hks.to fun b o u hb hu=>⟨hu,(h4 b (a1 b hb)).1⟩,his.to fun b o u hb hu=>⟨hu,(h4 b (b1 b hb)).1⟩⟩
theorem Aih {C:Nat->Prop} {w0 w:Y} {Z0:List Aj} (h:Mem C w0 Z0 w):Mem C w0 (Nq (.agg #[I J 0,Z O 0 0]) Ib::Z0) w:=
 ⟨h.1,fun _=>False,⟨O,0,rfl,fun j x hj=>by cases hj⟩,fun _ e=>e.elim,h.2.mono (fun b hb=>⟨hb,fun e=>e⟩) (fun _ _=>rfl)⟩
theorem Aes {ct nt it:TypeId} {c nb:Nat} {C:Nat->Prop} {w0 w:Y} {Z0:List Aj} (h:Mem C w0 (blk c [I J 0,Z O 0 0,.map (F nb)] ct::K9 Value.string nb []::Z0) w):Mem C w0 (XF ct nt it c ⟨[],[]⟩::Z0) w:=
 GF (nb,Z O 0 0,[]) (by
  have h2:=((Mem.toStar (B:=[]) h).ownNil nt 6).pr (p:=([]:List (Value×Value)).length=([]:List Nd).length/\([]:List Nd).length<=200) ⟨rfl,by decide⟩;exact h2.sel (.cons (.tl (.tl (.tl .hd))) (.cons (.tl (.tl (.tl .hd))) (.cons (.tl .hd) (.cons (.tl .hd) (NT.refl _))))))
theorem Qd (rt:Sc->Bool) (nb:ByteArray->Bool) (t:Tr) (p:Addr) (w:Y) (vs:List Value) (hT:Cm w (fun b=>b<w.heap.size) t vs) (hP:TrP w rt nb t) (hTw:DF w (fun b=>b<w.heap.size)) (hg:Ea.ErrC w) (hS:Ea.ErrS w p):
  Calls Tryz.prog 51 #[.agg vs.toArray] w fun e w'=>∃ v,e=.returned (.tuple #[v,I J (A8 (BU rt nb) t).2])/\Fr w w' [Nq v (A8 (BU rt nb) t).1]:=by
 have hL:=Ns w rt nb hTw t hP 1 ⟨[],[]⟩;obtain⟨r,hr⟩:∃ r,Cy (BU rt nb) 1 t ⟨[],[]⟩=r:=⟨_,rfl⟩
 have hcm:A8 (BU rt nb) t=if r.2.2=0 then (⟨0,r.1.nodes⟩,0) else (Ib,r.2.2):=by unfold A8;rw[hr]
 rw[hr] at hL;rw[hcm];have hT0:=hT;obtain⟨k',nm',x',ks',ts',hke⟩:∃ k' nm' x' ks' ts',t=.mk k' nm' x' ks' ts':=by cases t;exact⟨_,_,_,_,_,rfl⟩
 rw[hke] at hT0;unfold Cm at hT0;obtain⟨KA',kc',TA',tc',rfl,_⟩:=hT0;refine V.enter _ Tryz.func51 (Mem.start (C:=Ao) w) ?_;refine W ?_;refine R.new fun b1 h1=>?_;refine R.new fun b2 h2=>?_
 repeat refine W ?_
 refine R.mkm (κ:=ByteArray) Value.string fun bm hm=>?_
 repeat refine W ?_
 refine R.new fun bc hc=>?_;iterate 2 refine W ?_
 refine V.pre (S':=Mem Ao w [R9 bc ⟨[],[]⟩,blk b1 (Ov k' nm' x' (Z KA' ks'.length kc') (Z TA' ts'.length tc')) 53,blk b2 [I J 0,Z O 0 0] 26]) ?_ (fun w' h'=>Aes h'.sel)
 repeat refine W ?_
 refine R.cq (fun w' h'=>hL bc w' (Ov k' nm' x' (Z KA' ks'.length kc') (Z TA' ts'.length tc')) hT (h'.1.below) (by decide) (by decide)) (fun G hG=>FG.of (Bq _ w) (Fz:=Ao) (fun b hb=>hb.elim) G hG) (fun _=>?_);iterate 6 refine W ?_
 by_cases he:r.2.2=0
 ·refine V.re 6 (v:=cErr r.2.2) (v':=.nilIface) (by rw[he];rfl) ?_;refine V.any (fun w' h'=>I9 h' Pk.hd) (fun q=>?_);obtain⟨nb2,L,vs2⟩:=q;show V _ _ _ _ _ _ (Mem Ao w [blk bc [I J 0,L,.map (F nb2)] 162,K9 Value.string nb2 (AS (Value.int .i64) r.1.names),Af 40 6 L r.1.nodes.length (AU r.1.nodes vs2),star (E4 3 r.1.nodes vs2),pr (vs2.length=r.1.nodes.length/\r.1.nodes.length<=200),blk b1 (Ov k' nm' x' (Z KA' ks'.length kc') (Z TA' ts'.length tc')) 53,blk b2 [I J 0,Z O 0 0] 26]) _;refine V.prop (p:=vs2.length=r.1.nodes.length/\r.1.nodes.length<=200) fun hp=>?_;refine V.know (p:=∃ LA lc,L=Z LA r.1.nodes.length lc) (fun w' h'=>(AL h' (List.Mem.tail _ (List.Mem.tail _ (List.Mem.head _)))).elim (fun⟨e,e0⟩=>⟨O,0,by rw[e,e0]⟩) (fun⟨g,c,e⟩=>⟨_,c,e⟩)) fun hL2=>?_;obtain⟨LA,lc,rfl⟩:=hL2
  repeat refine W ?_
  refine V.end (fun w' h'=>?_) (hv:=.agg rfl (by(repeat (first | exact List.Mem.head _ | apply List.Mem.tail))) (by intro w;kernel_rfl) (by intro w;simp;try rfl) (.tmp rfl .nil));rw[if_pos he];exact⟨_,rfl,(Zi (nt:=40) (it:=3) 0 hp.1 h'.sel:Mem Ao w [Nq _ _] w').to_fr⟩
 ·refine V.re 6 (v:=cErr r.2.2) (v':=Ea.cwV r.2.2) (by unfold cErr;rw[if_neg he];rfl) ?_
  repeat refine W ?_
  refine R.c (fun w' h'=>Ea.c_told r.2.2 p w' (h'.1.cell hg fun e=>e) (h'.1.cell hS fun e=>e)) ?_
  repeat refine W ?_
  refine V.end (fun w' h'=>?_) (hv:=.agg rfl (by(repeat (first | exact List.Mem.head _ | apply List.Mem.tail))) (by intro w;kernel_rfl) (by intro w;simp;try rfl) (.tmp rfl .nil));rw[if_neg he];exact⟨_,rfl,(Aih (show Mem Ao w [] w' from h'.sel)).to_fr⟩
end
section
set_option maxHeartbeats 4000000
set_option maxRecDepth 100000
def CP (no e:Int):Value:=if e=0 then .nilIface else .iface 104 (.agg #[I J no,I J e])
theorem Tg (rt:Sc->Bool) (nb:ByteArray->Bool) (t:Tr) (p:Addr) (src:ByteArray) (w:Y) (vs:List Value) (hT:Cm w (fun b=>b<w.heap.size) t vs) (hP:TrP w rt nb t) (hTw:DF w (fun b=>b<w.heap.size)) (hg:Ea.ErrC w) (hS:Ea.ErrS w p)
  (hb:∀ w',Below w.heap.size w w'->Cm w' (fun b=>b<w'.heap.size) t vs/\TrP w' rt nb t/\DF w' (fun b=>b<w'.heap.size)):
  Calls Tryz.prog 26 #[.agg #[Q src],.iface 53 (.agg vs.toArray)] w fun e w'=>∃ v,e=.returned (.tuple #[.iface 26 v,CP 0 (A8 (BU rt nb) t).2])/\Fr w w' [Nq v (A8 (BU rt nb) t).1]:=by
 refine V.enter _ Tryz.func26 (Mem.start (C:=Ao) w) ?_;refine W ?_;refine R.new fun b2 h2=>?_
 repeat refine W ?_
 refine R.cf (fun w' h'=>by
  obtain⟨a,b,c⟩:=hb w' h'.1.below;exact Qd rt nb t p w' vs a b c (h'.1.cell hg fun e=>e) (h'.1.cell hS fun e=>e)) (fun v=>?_)
 refine R.know (p:=∃ r L,v=.agg #[r,L]/\r.oneCell'=true/\L.oneCell'=true) (fun w' h'=>by
  obtain⟨Fz,⟨A,c,e,_⟩,_⟩:=h'.has (List.Mem.head _);exact⟨_,_,e,rfl,rfl⟩) fun hv=>?_
 obtain⟨r,L,rfl,hr,hL⟩:=hv
 repeat refine W ?_
 refine R.new fun b6 h6=>?_;have e26:∀ w,(isAgg 26).run Tryz.prog w=.ok true w:=Tryz.isAgg26;refine W ?_ (by exact R.st (ho1:=by show(r::L::[]).all _=true;rw[List.all_cons,List.all_cons,hr,hL];rfl))
 repeat refine W ?_
 refine R.c (fun w' h'=>Hr 0 (A8 (BU rt nb) t).2 w') ?_
 repeat refine W ?_
 refine V.end fun w' h'=>?_;exact⟨_,rfl,(h'.sel:Mem Ao w [Nq _ _] w').to_fr⟩
end
section
set_option maxRecDepth 100000
theorem Wv (src:ByteArray) (A:Option Addr) (n c:Nat) (w:Y):Calls Tryz.prog 47 #[.agg #[Q src],Z A n c] w fun e w'=>∃ b:Nat,e=.returned (.func (.func 67) #[] #[.pointer (F ⟨b,0,O⟩)])/\Fr w w' [blk b [Z A n c] 92]:=by
 refine V.enter _ Tryz.func47 (Mem.start (C:=Ao) w) ?_;refine W ?_;refine R.new fun b2 h2=>?_;refine R.new fun b3 h3=>?_
 repeat refine W ?_
 refine V.end fun w' h'=>?_;exact⟨b3,rfl,(h'.sel:Mem Ao w [_] w').to_fr⟩
end
section
def Jq (n:Nat):UInt8:=if n<10 then UInt8.ofNat (48+n) else UInt8.ofNat (87+n)
def Es (r:Nat):List UInt8:=
 if r=10 then [92,110] else if r=9 then [92,116] else if r=13 then [92,114]
 else if r=34\/r=92 then [92,UInt8.ofNat r]
 else if An r then encodeRune r else [92,120,Jq (r / 16),Jq (r%16)]
def Ft (l:List UInt8):List UInt8:=34::((AJ l).flatMap Es++[34])
def VM (r:Nat):Prop:=YT (r:Int)=true
theorem Lu:∀ (n:Nat) (l:List UInt8),l.length<=n->validD l=true->∀ r∈AJ l,VM r
 | n,[],_,_,r,h=>by rw[J4] at h;simp at h
 | 0,c::t,h,_,_,_=>by simp at h
 | n+1,c::t,h,hv,r,hr=>by
  have hne:c::t≠[]:=by simp
  have hb:¬((decodeL (c::t)).1=65533/\(decodeL (c::t)).2=1):=fun h=>by rw[validD_step _ hne,if_pos h] at hv;cases hv
  have hw:=decodeL_width (c::t);rw[Bo _ hne] at hr;rcases List.mem_cons.1 hr with rfl | hr
  ·have hvr:=Ha _ hne hb;unfold Lib.validRune at hvr;rw[decide_eq_true_eq] at hvr;unfold VM;rw[NL];omega
  ·exact Lu n _ (by rw[List.length_drop];simp at h |-;omega) (KM _ hne hv) r hr
theorem V2:∀ q:Fin 16,MG (Jq q.val)=F q.val/\(Jq q.val).toNat<128/\32<=(Jq q.val).toNat/\(Jq q.val).toNat≠127:=by decide+kernel
theorem Xk {r:Nat} (h:An r=false):r<128:=by
 unfold An BA at h;simp at h;omega
end
section
def Afu (x:Sc):List UInt8:=
 if x.kind=0 then [110,117,108,108] else if x.kind=1 then (if x.num=1 then [116,114,117,101] else [102,97,108,115,101])
 else if x.kind=2 then itoa x.num else Ft x.str.data.toList
def DN (x:Sc):ByteArray×Int:=if Ap x then (⟨(Afu x).toArray⟩,0) else (⟨#[]⟩,60)
theorem Ajp {s:ByteArray} {l:List UInt8} (h:s.data.toList=l):s=⟨l.toArray⟩:=by subst h;rfl
theorem Mj {s:ByteArray} (h:s.data.toList.isEmpty=true):s=⟨#[]⟩:=by
 have:=List.isEmpty_iff.1 h;exact Ajp this
theorem Kw {x:Sc} (h:Ap x=true):x=A4\/x=⟨1,1,⟨#[]⟩⟩\/x=⟨1,0,⟨#[]⟩⟩\/(∃ n:Int,x=⟨2,n,⟨#[]⟩⟩/\ -999999999999999<=n/\n<=999999999999999)\/(∃ s:ByteArray,x=⟨3,0,s⟩/\validD s.data.toList=true):=by
 obtain⟨k,n,s⟩:=x;unfold Ap at h;simp only at h;split at h
 ·rename_i hk;simp only[Bool.and_eq_true,beq_iff_eq] at h;left;rw[hk,h.1,Mj h.2];rfl
 ·split at h
  ·rename_i hk;simp only[Bool.and_eq_true,Bool.or_eq_true,beq_iff_eq] at h;rw[hk,Mj h.1];rcases h.2 with h2 | h2
   ·right;right;left;rw[h2]
   ·right;left;rw[h2]
  ·split at h
   ·rename_i hk;simp only[Bool.and_eq_true,decide_eq_true_eq] at h;right;right;right;left;exact⟨n,by rw[hk,Mj h.1],h.2.1,h.2.2⟩
   ·split at h
    ·rename_i hk;simp only[Bool.and_eq_true,beq_iff_eq] at h;right;right;right;right;exact⟨s,by rw[hk,h.1],h.2⟩
    ·cases h
end
end Go.Proofs.YtdpppepmkeinaaaGreatDoor
