/- What is proved: a part of the walk of the program and of its plain laws; no condition beside those that each theorem names. -/
import Derived.Test.YtdpppepmkeinaaaGreatDoorYl
import Derived.Test.YtdpppepmkeinaaaGreatDoorYt
import Derived.Test.YtdpppepmkeinaaaGreatDoorYu
import Derived.Test.YtdpppepmkeinaaaGreatDoorYv
import Derived.Test.YtdpppepmkeinaaaGreatDoorYw
import Derived.Test.YtdpppepmkeinaaaGreatDoorYf
import Derived.Test.YtdpppepmkeinaaaGreatDoorYn
import Derived.Test.YtdpppepmkeinaaaGreatDoorYs
import Derived.Test.YtdpppepmkeinaaaGreatDoorYo
import Derived.Test.YtdpppepmkeinaaaGreatDoorYk
import Derived.Test.YtdpppepmkeinaaaGreatDoorYb
import Derived.Test.YtdpppepmkeinaaaGreatDoorYa
import Derived.Lib.AppendStr
import Derived.Lib.FrozenHead
namespace Go.Proofs.YtdpppepmkeinaaaGreatDoor
open Go Go.RowKit Go.Lib
open Go.Value renaming int->I,string->Q,slice->Z
open Go.IntKind renaming i64->J
open Option renaming none->O,some->F
open _root_.Go renaming World->Y
set_option linter.unusedSimpArgs false
set_option linter.unusedVariables false
set_option linter.unusedSectionVars false
section
set_option maxHeartbeats 4000000
set_option maxRecDepth 100000
structure FI (w:Y):Prop where
 tabs:Bf w
 err:Gc w
 len:MB w
 errS:∃ p,Ea.ErrS w p
theorem FI.to {w w':Y} (h:FI w) (hb:Below w.heap.size w w'):FI w':=⟨h.tabs.below hb,h.err.below hb,h.len.below hb,let ⟨p,hp⟩:=h.errS;⟨p,cell_below hp hb⟩⟩
theorem FI.errC {w:Y} (h:FI w):Ea.ErrC w:=h.err
theorem FI.right {w:Y} (h:FI w) {x:Sc} (hx:x.str.size<=1000000):A7 139 Ap x w:=fun W hW=>Gu x.kind x.num x.str W hx (h.tabs.below hW)
theorem K6 (w:Y) (S:Nat->Prop):DF w S:=fun w1 A c ks hb hk hl=>XS _ ks w1 hk.scIn hl
abbrev nbP (nm:ByteArray):Bool:=Fa nm.data.toList
mutual
theorem FI.tree {w:Y} (h:FI w):∀ (t:Tr),E5 40000 t->Sm 1000000 t->TrP w Ap nbP t
 | .mk k nm x ks ts,h1,h2=>by
  unfold E5 at h1;unfold Sm at h2;unfold TrP;obtain⟨a1,a2,a3,a4⟩:=h1;exact⟨⟨h.right (by omega),fun y hy=>h.right (by have:=a3 y hy;omega),fun w1 hw1=>Hq nm w1 (by omega),h2.1,h2.2.1⟩,h.trees ts a4 h2.2.2⟩
theorem FI.trees {w:Y} (h:FI w):∀ (ts:List Tr),E5.SzTs 40000 ts->Sm.SmTs 1000000 ts->TsP w Ap nbP ts
 | [],_,_=>by unfold TsP;trivial
 | t::r,h1,h2=>by
  unfold E5.SzTs at h1;unfold Sm.SmTs at h2;unfold TsP;exact⟨h.tree t h1.1 h2.1,h.trees r h1.2 h2.2⟩
end
theorem TN (s:ByteArray) (made:Value) (w:Y) (hW:FI w):
  Calls Tryz.prog 24 #[.agg #[Q s],made] w fun e w'=>∃ q:Option Addr×Nat,e=.returned (.tuple #[.iface 96 (Z q.1 (Al s.data.toList).1.length q.2),CP (Al s.data.toList).2.1 (Al s.data.toList).2.2])/\Fr w w' [K4 (Z q.1 (Al s.data.toList).1.length q.2) (Al s.data.toList).1]:=by
 have hS:=fun w' (h:FI w')=>Xz s w' h.tabs h.len;unfold LY at hS;obtain⟨r,hr⟩:∃ r,Al s.data.toList=r:=⟨_,rfl⟩
 rw[hr] at hS |-;refine V.enter _ Tryz.func24 (Mem.start (C:=Ao) w) ?_;refine W ?_;refine R.new fun b2 h2=>?_
 repeat refine W ?_
 refine R.cf (ι:=Option Addr×Nat) (v:=fun q=>.tuple #[Z q.1 r.1.length q.2,I J r.2.1,I J r.2.2]) (X:=fun q=>[K4 (Z q.1 r.1.length q.2) r.1]) (fun w' h'=>(hS w' (hW.to h'.1.below)).mono fun e w1 ⟨v,he,ho,hb⟩=>by
  have hf:=ho.fr hb;obtain⟨_,Fz,⟨A,c,rfl,_⟩,_⟩:=id hf;exact⟨(A,c),he,hf⟩) (fun q=>?_)
 repeat refine W ?_
 refine R.c (fun w' h'=>Hr r.2.1 r.2.2 w') ?_
 repeat refine W ?_
 refine V.end fun w' h'=>?_;exact⟨q,rfl,(h'.sel:Mem Ao w [K4 _ _] w').to_fr⟩
theorem WB (src:ByteArray) (s:List UInt8) (S:Nat->Prop) (A:Option Addr) (c:Nat) (w:Y) (hx:Fk w S A (Al s).1) (hW:FI w):
  Calls Tryz.prog 25 #[.agg #[Q src],.iface 96 (Z A (Al s).1.length c)] w fun e w'=>∃ y:TY,e=.returned (.tuple #[.iface 53 (.agg (As y).toArray),CP (C0 100000 ((Al s).1.map B0)).2.1 (C0 100000 ((Al s).1.map B0)).2.2])/\Fr w w' [Aq (As y) (C0 100000 ((Al s).1.map B0)).1]:=by
 have hl:(Al s).1.length<=1000000:=by
  by_cases h:8000<s.length
  ·rw[H8 h];exact Nat.zero_le _
  ·have h1:=(I1 s).1;have h2:∀ l:List Sc,l.length<=WF l:=fun l=>by
    unfold WF;induction l with
    | nil=>exact Nat.le_refl _
    | cons x r ih=>rw[List.map_cons,List.sum_cons,List.length_cons];omega
   have:=h2 (Al s).1;omega
 have hB:=fun w' (h:FI w') hx=>ZK 100000 (by decide) S A c (Al s).1 w' hx hl (fun x hx=>by have:=GC x hx;omega) Hp h.tabs h.errC;obtain⟨r,hr⟩:∃ r,C0 100000 ((Al s).1.map B0)=r:=⟨_,rfl⟩
 rw[hr] at hB |-;refine V.enter _ Tryz.func25 (Mem.start (C:=Ao) w) ?_;refine W ?_;refine R.new fun b2 h2=>?_
 repeat refine W ?_
 refine R.cf (ι:=TY) (v:=fun y=>.tuple #[.agg (As y).toArray,I J r.2.1,I J r.2.2]) (X:=fun y=>[Aq (As y) r.1]) (fun w' h'=>hB w' (hW.to h'.1.below) (hx.to fun b o v hb hv=>⟨h'.1.cell hv (fun e=>e),hb⟩)) (fun y=>?_);iterate 4 refine W ?_
 refine R.new fun b6 h6=>?_
 repeat refine W ?_
 refine R.c (fun w' h'=>Hr r.2.1 r.2.2 w') ?_
 repeat refine W ?_
 refine V.end fun w' h'=>?_;exact⟨y,rfl,(h'.sel:Mem Ao w [Aq _ _] w').to_fr⟩
end
section
set_option maxHeartbeats 16000000
set_option maxRecDepth 100000
structure Yt (wB:Y) (s:ByteArray) (R1:List Sc×Int×Int) (R2:Tr×Int×Int) (R3:Gf×Int):Prop where
 l:∀ made w,Below wB.heap.size wB w->Calls Tryz.prog 24 #[.agg #[Q s],made] w fun e w'=>∃ q:Option Addr×Nat,e=.returned (.tuple #[.iface 96 (Z q.1 R1.1.length q.2),CP R1.2.1 R1.2.2])/\Fr w w' [K4 (Z q.1 R1.1.length q.2) R1.1]
 t:∀ (S:Nat->Prop) A c w,Below wB.heap.size wB w->Fk w S A R1.1->Calls Tryz.prog 25 #[.agg #[Q s],.iface 96 (Z A R1.1.length c)] w fun e w'=>∃ y:TY,e=.returned (.tuple #[.iface 53 (.agg (As y).toArray),CP R2.2.1 R2.2.2])/\Fr w w' [Aq (As y) R2.1]
 g:∀ (y:TY) w,Below wB.heap.size wB w->Cm w (fun b=>b<w.heap.size) R2.1 (As y)->Calls Tryz.prog 26 #[.agg #[Q s],.iface 53 (.agg (As y).toArray)] w fun e w'=>∃ q:Option Addr×Nat,e=.returned (.tuple #[.iface 26 (Eh q.1 q.2 R3.1),CP 0 R3.2])/\Fr w w' [Nq (Eh q.1 q.2 R3.1) R3.1]
abbrev Li:=Value×Value
section
variable (R1:List Sc×Int×Int) (R2:Tr×Int×Int) (R3:Gf×Int)
def Ii (q:Option Addr×Nat):Li:=(.iface 96 (Z q.1 R1.1.length q.2),CP R1.2.1 R1.2.2)
def O5 (y:TY):Li:=(.iface 53 (.agg (As y).toArray),CP R2.2.1 R2.2.2)
def it3 (q:Option Addr×Nat):Li:=(.iface 26 (Eh q.1 q.2 R3.1),CP 0 R3.2)
def itA (m:Nat):List Li->Li->Prop
 | [],x=>∃ q,x=Ii R1 q
 | [u],x=>(∃ q,u=Ii R1 q)/\R1.2.2=0/\∃ y,x=O5 R2 y
 | [u,v],x=>(∃ q,u=Ii R1 q)/\(∃ y,v=O5 R2 y)/\m=3/\R1.2.2=0/\R2.2.2=0/\∃ q,x=it3 R3 q
 | _,_=>False
def Iz (m:Nat):List Li->Prop
 | []=>True
 | [x]=>R1.2.2=0/\∃ q,x=Ii R1 q
 | [u,x]=>(∃ q,u=Ii R1 q)/\R1.2.2=0/\R2.2.2=0/\∃ y,x=O5 R2 y
 | [u,v,x]=>(∃ q,u=Ii R1 q)/\(∃ y,v=O5 R2 y)/\m=3/\R1.2.2=0/\R2.2.2=0/\R3.2=0/\∃ q,x=it3 R3 q
 | _=>False
def itF (m:Nat):List Li->Prop
 | [x]=>R1.2.2≠0
 | [u,x]=>R1.2.2=0/\(m=2\/R2.2.2≠0)
 | [_,_,x]=>m=3/\R1.2.2=0/\R2.2.2=0
 | _=>False
def itM:List Li->List Aj
 | [(.iface _ v,_)]=>[K4 v R1.1]
 | [_,(.iface _ (.agg a),_)]=>[Aq a.toList R2.1]
 | [_,_,(.iface _ v,_)]=>[Nq v R3.1]
 | _=>[]
end
def f1V (s:ByteArray):Value:=.func (.func 24) #[.agg #[Q s]] #[]
def f2V (s:ByteArray):Value:=.func (.func 25) #[.agg #[Q s]] #[]
def f3V (s:ByteArray):Value:=.func (.func 26) #[.agg #[Q s]] #[]
theorem Lt {a b:Int} (h:b=0):CP a b=.nilIface:=by unfold CP;rw[if_pos h]
theorem Hd {a b:Int} (h:¬b=0):CP a b=.iface 104 (.agg #[I J a,I J b]):=by unfold CP;rw[if_neg h]
theorem Aht (wB:Y) (s:ByteArray) (R1:List Sc×Int×Int) (R2:Tr×Int×Int) (R3:Gf×Int) (hP:Yt wB s R1 R2 R3) (sb fb m:Nat) (rest:List Value) (hm:m=2/\rest=[]\/m=3/\rest=[f3V s]) (hf:Cs wB fb 0 (f1V s::f2V s::rest)):
  FH Tryz.prog 67 #[.pointer (F ⟨sb,0,O⟩)] (fun(x:Li)=>[x.1,x.2]) (fun _=>[]) (fun xs=>blk sb [Z (F ⟨fb,0,O⟩) m m] 92::itM R1 R2 R3 xs)
   (itA R1 R2 R3 m) (itF R1 R2 m) (fun w G=>Below wB.heap.size wB w/\FG wB G):=by
 refine FH.of fun l Jz Jx w G hSt hG hY hM=>?_;obtain⟨hB,hQ⟩:=hSt;have hfw:Cs w fb 0 (f1V s::f2V s::rest):=(AI.of_below (C:=Ao) hB).cs hf (fun e=>e);have hfn:¬G fb:=fun e=>by
  have h1:=hQ fb e;have h2:=FV (hf 0 _ rfl);omega
 have hm2:m=2\/m=3:=hm.imp And.left And.left;refine V.enter _ Tryz.func67 hM ?_
 repeat refine W ?_
 refine V.loop (ι:=List Li) (Iz R1 R2 R3 m) (fun xs=>Mem G w (blk sb [Z (F ⟨fb,0,O⟩) m m] 92::(itM R1 R2 R3 xs++[Jz xs]))) (fun xs=>[(9,I J xs.length),(8,I J m),(7,Z (F ⟨fb,0,O⟩) m m),(3,(xs.getLast?.map (·.1)).getD .nilIface),(0,.func (.yield l) #[] #[]),(1,.pointer (F ⟨sb,0,O⟩))]) (fun xs=>3 - xs.length) [] trivial (fun w h=>h) ⟨rfl,rfl,rfl,rfl,rfl,rfl,trivial⟩ ?_;intro xs hxs
 match xs,hxs with
 | [],_=>
  repeat refine W ?_
  refine V.ifp (fun hlt=>?_) (fun hge=>absurd (show 0<m by omega) hge)
  repeat refine W ?_
  refine R.ix (k:=0) (show 0<m by omega) ?_;refine R.lo 0 hfw ?_ hfn
  repeat refine W ?_
  refine R.cf (fun w' h'=>hP.l _ w' (AI.belowB hB hQ h'.1)) (fun q=>?_)
  repeat refine W ?_
  refine R.y (hY [] (Ii R1 q) ⟨q,rfl⟩) ?_ ?_
  ·by_cases e:R1.2.2=0
   ·refine R.re 4 (Lt e) ?_
    repeat refine W ?_
    exact V.again [Ii R1 q] rfl ⟨e,q,rfl⟩ (hm:=by simp)
   ·refine R.re 4 (Hd e) ?_
    repeat refine W ?_
    refine V.end fun w' h'=>?_;exact⟨⟨_,rfl⟩,.inl ⟨[Ii R1 q],e,h'.sel⟩⟩
  ·repeat refine W ?_
   refine V.end fun w' h'=>?_;exact⟨⟨_,rfl⟩,.inr ⟨_,h'.sel⟩⟩
 | [_],⟨e1,q,rfl⟩=>
  repeat refine W ?_
  refine V.ifp (fun hlt=>?_) (fun hge=>absurd (show(1:Int)<(m:Int) by omega) hge)
  repeat refine W ?_
  refine R.ix (k:=1) (show 1<m by omega) ?_;refine R.lo 1 hfw ?_ hfn
  repeat refine W ?_
  refine R.cf (X:=fun y:TY=>[Aq (As y) R2.1]) (fun w' h'=>by
   obtain⟨Fz,⟨A,c,e,hk⟩,_⟩:=h'.has (X:=K4 (Z q.1 R1.1.length q.2) R1.1) (by simp[itM,Ii]);injection e with ea _ ec;subst ea;subst ec;exact hP.t Fz q.1 q.2 w' (AI.belowB hB hQ h'.1) hk) (fun y=>?_)
  repeat refine W ?_
  refine R.y (hY [Ii R1 q] (O5 R2 y) ⟨⟨q,rfl⟩,e1,y,rfl⟩) ?_ ?_
  ·by_cases e:R2.2.2=0
   ·refine R.re 4 (Lt e) ?_
    repeat refine W ?_
    exact V.again [Ii R1 q,O5 R2 y] rfl ⟨⟨q,rfl⟩,e1,e,y,rfl⟩ (hm:=by simp)
   ·refine R.re 4 (Hd e) ?_
    repeat refine W ?_
    refine V.end fun w' h'=>?_;exact⟨⟨_,rfl⟩,.inl ⟨[Ii R1 q,O5 R2 y],⟨e1,.inr e⟩,h'.sel⟩⟩
  ·repeat refine W ?_
   refine V.end fun w' h'=>?_;exact⟨⟨_,rfl⟩,.inr ⟨_,h'.sel⟩⟩
 | [_,_],⟨⟨q0,rfl⟩,e1,e2,y,rfl⟩=>
  rcases hm with ⟨rfl,rfl⟩ | ⟨rfl,rfl⟩
  ·repeat refine W ?_
   refine V.end fun w' h'=>?_;exact⟨⟨_,rfl⟩,.inl ⟨[Ii R1 q0,O5 R2 y],⟨e1,.inl rfl⟩,h'.sel⟩⟩
  ·repeat refine W ?_
   refine R.lo 2 hfw ?_ hfn
   repeat refine W ?_
   refine R.cf (X:=fun q:Option Addr×Nat=>[Nq (Eh q.1 q.2 R3.1) R3.1]) (fun w' h'=>by
    obtain⟨Fz,hF,hF2⟩:=h'.has (X:=Aq (As y) R2.1) (by simp[itM,O5]);exact hP.g y w' (AI.belowB hB hQ h'.1) (Cm.more hF fun b hb=>(hF2 b hb).1)) (fun q=>?_)
   repeat refine W ?_
   refine R.y (hY [Ii R1 q0,O5 R2 y] (it3 R3 q) ⟨⟨q0,rfl⟩,⟨y,rfl⟩,rfl,e1,e2,q,rfl⟩) ?_ ?_
   ·by_cases e:R3.2=0
    ·refine R.re 4 (Lt e) ?_
     repeat refine W ?_
     exact V.again [Ii R1 q0,O5 R2 y,it3 R3 q] rfl ⟨⟨q0,rfl⟩,⟨y,rfl⟩,rfl,e1,e2,e,q,rfl⟩ (hm:=by simp)
    ·refine R.re 4 (Hd e) ?_
     repeat refine W ?_
     refine V.end fun w' h'=>?_;exact⟨⟨_,rfl⟩,.inl ⟨[Ii R1 q0,O5 R2 y,it3 R3 q],⟨rfl,e1,e2⟩,h'.sel⟩⟩
   ·repeat refine W ?_
    refine V.end fun w' h'=>?_;exact⟨⟨_,rfl⟩,.inr ⟨_,h'.sel⟩⟩
 | [_,_,_],⟨⟨q0,rfl⟩,⟨y,rfl⟩,e0,e1,e2,e3,q,rfl⟩=>
  rcases hm with ⟨rfl,_⟩ | ⟨rfl,rfl⟩
  ·cases e0
  ·repeat refine W ?_
   refine V.end fun w' h'=>?_;exact⟨⟨_,rfl⟩,.inl ⟨[Ii R1 q0,O5 R2 y,it3 R3 q],⟨rfl,e1,e2⟩,h'.sel⟩⟩
 | _::_::_::_::_,hx=>exact hx.elim
end
section
set_option maxHeartbeats 32000000
set_option maxRecDepth 100000
def trz:TY:=(0,⟨#[]⟩,A4,(O,0,0),(O,0,0))
def tcs:List Li->List Value
 | [_,(.iface _ (.agg a),_)]=>a.toList
 | [_,(.iface _ (.agg a),_),_]=>a.toList
 | _=>As trz
def gcs:List Li->List Value
 | [_,_,(.iface _ (.agg a),_)]=>a.toList
 | _=>[I J 0,Z O 0 0]
def ecs:List Li->Value
 | [(_,e)]=>e
 | [_,(_,e)]=>e
 | [_,_,(_,e)]=>e
 | _=>.nilIface
def D0 (m:Nat) (R1:List Sc×Int×Int) (R2:Tr×Int×Int) (R3:Gf×Int):Tr×Gf×Int×Int:=
 if R1.2.2≠0 then (DW,Ib,R1.2.1,R1.2.2) else if R2.2.2≠0 then (DW,Ib,R2.2.1,R2.2.2) else if m=2 then (R2.1,Ib,0,0) else if R3.2≠0 then (DW,Ib,0,R3.2) else (R2.1,R3.1,0,0)
def itE (R1:List Sc×Int×Int) (R2:Tr×Int×Int) (R3:Gf×Int) (m:Nat):List Li->Prop
 | [x]=>R1.2.2≠0/\∃ q,x=Ii R1 q
 | [_,x]=>R1.2.2=0/\R2.2.2≠0/\∃ y,x=O5 R2 y
 | [_,_,x]=>m=3/\R1.2.2=0/\R2.2.2=0/\R3.2≠0/\∃ q,x=it3 R3 q
 | _=>False
theorem Aau {w w':Y} (h:Below w.heap.size w w'):Fr w w' [Aq (As trz) DW]:=⟨h,fun _=>False,by
 show Cm w' _ DW _;unfold DW Cm Cm.TsV;exact⟨O,0,O,0,rfl,(fun j x hj=>by cases hj),trivial⟩,fun _ e=>e.elim,trivial⟩
theorem Uy {w w':Y} (h:Below w.heap.size w w'):Fr w w' [Nq (Eh O 0 Ib) Ib]:=⟨h,fun _=>False,⟨O,0,rfl,fun j x hj=>by cases hj⟩,fun _ e=>e.elim,trivial⟩
theorem VE (s:ByteArray) (R1:List Sc×Int×Int) (R2:Tr×Int×Int) (R3:Gf×Int) (fb m:Nat) (rest:List Value) (w:Y) (hP:Yt w s R1 R2 R3) (hm:m=2/\rest=[]\/m=3/\rest=[f3V s]) (hf:Cs w fb 0 (f1V s::f2V s::rest)):
  Calls Tryz.prog 23 #[.agg #[Q s],Z (F ⟨fb,0,O⟩) m m] w fun e w'=>∃ x:TY×Option Addr×Nat,e=.returned (.tuple #[.agg (As x.1).toArray,Eh x.2.1 x.2.2 (D0 m R1 R2 R3).2.1,CP (D0 m R1 R2 R3).2.2.1 (D0 m R1 R2 R3).2.2.2])∧
   Below w.heap.size w w'/\(m=2->Fr w w' [Aq (As x.1) (D0 m R1 R2 R3).1])/\(m=3->Fr w w' [Nq (Eh x.2.1 x.2.2 (D0 m R1 R2 R3).2.1) (D0 m R1 R2 R3).2.1]):=by
 refine V.enter _ Tryz.func23 (Mem.start (C:=Ao) w) ?_;refine W ?_;refine R.new fun b2 h2=>?_;refine R.new fun b4 h4=>?_;refine R.new fun b5 h5=>?_;refine R.new fun b6 h6=>?_
 repeat refine W ?_
 refine R.cf (fun w' h'=>Wv s (F ⟨fb,0,O⟩) m m w') (fun sb=>?_);refine R.z ?_;refine V.range (Aht w s R1 R2 R3 hP sb fb m rest hm hf) (fun xs=>[pr (Iz R1 R2 R3 m xs),blk b4 (tcs xs) 53,blk b5 (gcs xs) 26,blk b6 [.nilIface] 61]) (fun co xs=>[pr (co=.ret/\itE R1 R2 R3 m xs),blk b4 (As trz) 53,blk b5 [I J 0,Z O 0 0] 26,blk b6 [ecs xs] 61])
  (fun w h=>(h.pr (p:=Iz R1 R2 R3 m []) trivial).sel) (fun w1 w2 G h hb hG=>⟨(h.1.trans (C':=Ao) (AI.of_below hb) (fun _ _ e=>e)).below,fun b hb=>(hG b hb).elim id (fun e=>e.elim)⟩) (fun r pre x Wb C' T T' Rl hadm hx hC hmid=>?_) (fun D xs hfin=>?_) (fun D co xs=>?_)
 ·match pre,x,hadm with
  | [],_,⟨q,rfl⟩=>
   repeat refine W ?_
   refine V.mid hmid ?_;by_cases e:R1.2.2=0
   ·refine V.re 8 (Lt e) ?_
    repeat refine W ?_
    exact V.pr (p:=Iz R1 R2 R3 m ([]++[Ii R1 q])) (by show Iz R1 R2 R3 m [Ii R1 q];exact⟨e,q,rfl⟩) V.rn
   ·refine V.re 8 (Hd e) ?_
    repeat refine W ?_
    refine V.pre (S':=Mem C' Wb [pr (Iz R1 R2 R3 m []),blk b4 (As trz) 53,blk b5 [I J 0,Z O 0 0] 26,blk b6 [CP R1.2.1 R1.2.2] 61,T']) ?_ (fun w' h'=>by rw[Hd e];exact h'.sel);exact V.pr (p:=Code.ret=.ret/\itE R1 R2 R3 m ([]++[Ii R1 q])) ⟨rfl,by show itE R1 R2 R3 m [Ii R1 q];exact⟨e,q,rfl⟩⟩ V.rr
  | [_],_,⟨⟨q0,rfl⟩,e1,y,rfl⟩=>
   repeat refine W ?_
   refine V.mid hmid ?_;by_cases e:R2.2.2=0
   ·refine V.re 8 (Lt e) ?_
    repeat (first | refine W ?_ | refine R.new fun b9 h9=>?_)
    exact V.pr (p:=Iz R1 R2 R3 m ([Ii R1 q0]++[O5 R2 y])) ⟨⟨q0,rfl⟩,e1,e,y,rfl⟩ V.rn
   ·refine V.re 8 (Hd e) ?_
    repeat refine W ?_
    refine V.pre (S':=Mem C' Wb [pr (Iz R1 R2 R3 m [Ii R1 q0]),blk b4 (As trz) 53,blk b5 [I J 0,Z O 0 0] 26,blk b6 [CP R2.2.1 R2.2.2] 61,T']) ?_ (fun w' h'=>by rw[Hd e];exact h'.sel);exact V.pr (p:=Code.ret=.ret/\itE R1 R2 R3 m ([Ii R1 q0]++[O5 R2 y])) ⟨rfl,e1,e,y,rfl⟩ V.rr
  | [_,_],_,⟨⟨q0,rfl⟩,⟨y,rfl⟩,e0,e1,e2,q,rfl⟩=>
   repeat refine W ?_
   refine V.mid hmid ?_;by_cases e:R3.2=0
   ·refine V.re 8 (Lt e) ?_
    repeat (first | refine W ?_ | refine R.new fun b9 h9=>?_)
    exact V.pr (p:=Iz R1 R2 R3 m ([Ii R1 q0,O5 R2 y]++[it3 R3 q])) ⟨⟨q0,rfl⟩,⟨y,rfl⟩,e0,e1,e2,e,q,rfl⟩ V.rn
   ·refine V.re 8 (Hd e) ?_
    repeat refine W ?_
    refine V.pre (S':=Mem C' Wb [pr (Iz R1 R2 R3 m [Ii R1 q0,O5 R2 y]),blk b4 (As trz) 53,blk b5 [I J 0,Z O 0 0] 26,blk b6 [CP 0 R3.2] 61,T']) ?_ (fun w' h'=>by rw[Hd e];exact h'.sel);exact V.pr (p:=Code.ret=.ret/\itE R1 R2 R3 m ([Ii R1 q0,O5 R2 y]++[it3 R3 q])) ⟨rfl,e0,e1,e2,e,q,rfl⟩ V.rr
  | _::_::_::_,_,hadm=>exact hadm.elim
 ·refine V.prop (p:=Iz R1 R2 R3 m xs) (fun ho=>?_) (hp:=List.mem_append_right _ (List.Mem.tail _ (List.Mem.head _)))
  match xs,hfin,ho with
  | [],hf,_=>exact hf.elim
  | [_],hf,ho=>exact absurd ho.1 hf
  | [_,_],⟨_,hm2⟩,⟨⟨q0,rfl⟩,e1,e2,y,rfl⟩=>
   obtain rfl:m=2:=hm2.resolve_right fun h=>h e2;refine W ?_;refine Zz.on (Mem Ao w [blk b4 (As y) 53,blk b5 [I J 0,Z O 0 0] 26]) ?_;iterate 5 refine Wy ?_
   refine Zz.off (fun w' h'=>h'.sel) ?_;refine R.z ?_;have hA:D0 2 R1 R2 R3=(R2.1,Ib,0,0):=by unfold D0;rw[if_neg (fun h=>h e1),if_neg (fun h=>h e2),if_pos rfl]
   refine V.end (fun w' h'=>?_) (hv:=.agg rfl (by(repeat (first | exact List.Mem.head _ | apply List.Mem.tail))) (by intro w;kernel_rfl) (by intro w;simp;try rfl) (.agg rfl (by(repeat (first | exact List.Mem.head _ | apply List.Mem.tail))) (by intro w;kernel_rfl) (by intro w;simp;try rfl) (.one rfl (by(repeat (first | exact List.Mem.head _ | apply List.Mem.tail))) (by intro w;kernel_rfl) .nil)));rw[hA];exact⟨(y,O,0),rfl,h'.1.below,fun _=>(h'.sel:Mem Ao w [Aq (As y) R2.1] w').to_fr,(fun h=>by cases h)⟩
  | [_,_,_],_,⟨⟨q0,rfl⟩,⟨y,rfl⟩,e0,e1,e2,e3,q,rfl⟩=>
   subst e0;refine W ?_;refine Zz.on (Mem Ao w [blk b4 (As y) 53,blk b5 [I J R3.1.root,Z q.1 R3.1.nodes.length q.2] 26]) ?_;iterate 5 refine Wy ?_
   refine Zz.off (fun w' h'=>h'.sel) ?_;refine R.z ?_;have hA:D0 3 R1 R2 R3=(R2.1,R3.1,0,0):=by unfold D0;rw[if_neg (fun h=>h e1),if_neg (fun h=>h e2),if_neg (by decide),if_neg (fun h=>h e3)]
   refine V.end (fun w' h'=>?_) (hv:=.agg rfl (by(repeat (first | exact List.Mem.head _ | apply List.Mem.tail))) (by intro w;kernel_rfl) (by intro w;simp;try rfl) (.agg rfl (by(repeat (first | exact List.Mem.head _ | apply List.Mem.tail))) (by intro w;kernel_rfl) (by intro w;simp;try rfl) (.one rfl (by(repeat (first | exact List.Mem.head _ | apply List.Mem.tail))) (by intro w;kernel_rfl) .nil)));rw[hA];exact⟨(y,q.1,q.2),rfl,h'.1.below,(fun h=>by cases h),fun _=>(h'.sel:Mem Ao w [Nq (Eh q.1 q.2 R3.1) R3.1] w').to_fr⟩
  | _::_::_::_::_,hf,_=>exact hf.elim
 ·refine V.prop (p:=co=.ret/\itE R1 R2 R3 m xs) fun hp=>?_;obtain⟨rfl,hE⟩:=hp
  match xs,hE with
  | [],hE=>exact hE.elim
  | [_],⟨e,q,rfl⟩=>
   have hA:D0 m R1 R2 R3=(DW,Ib,R1.2.1,R1.2.2):=by unfold D0;rw[if_pos e]
   refine V.end (fun w' h'=>?_) (hv:=.agg rfl (by(repeat (first | exact List.Mem.head _ | apply List.Mem.tail))) (by intro w;kernel_rfl) (by intro w;simp;try rfl) (.agg rfl (by(repeat (first | exact List.Mem.head _ | apply List.Mem.tail))) (by intro w;kernel_rfl) (by intro w;simp;try rfl) (.one rfl (by(repeat (first | exact List.Mem.head _ | apply List.Mem.tail))) (by intro w;kernel_rfl) .nil)));rw[hA];exact⟨(trz,O,0),rfl,h'.1.below,fun _=>Aau h'.1.below,fun _=>Uy h'.1.below⟩
  | [_,_],⟨e1,e,y,rfl⟩=>
   have hA:D0 m R1 R2 R3=(DW,Ib,R2.2.1,R2.2.2):=by unfold D0;rw[if_neg (fun h=>h e1),if_pos e]
   refine V.end (fun w' h'=>?_) (hv:=.agg rfl (by(repeat (first | exact List.Mem.head _ | apply List.Mem.tail))) (by intro w;kernel_rfl) (by intro w;simp;try rfl) (.agg rfl (by(repeat (first | exact List.Mem.head _ | apply List.Mem.tail))) (by intro w;kernel_rfl) (by intro w;simp;try rfl) (.one rfl (by(repeat (first | exact List.Mem.head _ | apply List.Mem.tail))) (by intro w;kernel_rfl) .nil)));rw[hA];exact⟨(trz,O,0),rfl,h'.1.below,fun _=>Aau h'.1.below,fun _=>Uy h'.1.below⟩
  | [_,_,_],⟨e0,e1,e2,e,q,rfl⟩=>
   subst e0;have hA:D0 3 R1 R2 R3=(DW,Ib,0,R3.2):=by unfold D0;rw[if_neg (fun h=>h e1),if_neg (fun h=>h e2),if_neg (by decide),if_pos e]
   refine V.end (fun w' h'=>?_) (hv:=.agg rfl (by(repeat (first | exact List.Mem.head _ | apply List.Mem.tail))) (by intro w;kernel_rfl) (by intro w;simp;try rfl) (.agg rfl (by(repeat (first | exact List.Mem.head _ | apply List.Mem.tail))) (by intro w;kernel_rfl) (by intro w;simp;try rfl) (.one rfl (by(repeat (first | exact List.Mem.head _ | apply List.Mem.tail))) (by intro w;kernel_rfl) .nil)));rw[hA];exact⟨(trz,O,0),rfl,h'.1.below,(fun h=>by cases h),fun _=>Uy h'.1.below⟩
  | _::_::_::_::_,hE=>exact hE.elim
end
section

end
section

end
section
def A6:Tr->Int->St->Int:=BU Ap (fun nm=>Fa nm.data.toList)
end
section
set_option maxHeartbeats 8000000
set_option maxRecDepth 100000
def D8 (s:List UInt8):Tr×Int×Int:=C0 100000 ((Al s).1.map B0)
def GS (s:List UInt8):Gf×Int:=A8 A6 (D8 s).1
theorem Afj {w:Y} (h:FI w) (s:ByteArray):Yt w s (Al s.data.toList) (D8 s.data.toList) (GS s.data.toList) where
 l made w' hb:=TN s made w' (h.to hb)
 t S A c w' hb hk:=WB s s.data.toList S A c w' hk (h.to hb)
 g y w' hb ht:=by
  obtain⟨p,hp⟩:=(h.to hb).errS;have hz:E5 40000 (D8 s.data.toList).1:=U6 100000 s.data.toList;have hm:Sm 1000000 (D8 s.data.toList).1:=Pe fun es he=>by have:=Hp es he;omega
  exact(Tg Ap nbP (D8 s.data.toList).1 p s w' (As y) ht ((h.to hb).tree _ hz hm) (K6 _ _) (h.to hb).errC hp (fun w2 hb2=>⟨Cm.to (fun b o v hlt hv=>⟨cell_below hv hb2,Nat.lt_of_lt_of_le hlt hb2.size⟩) _ _ ht,((h.to hb).to hb2).tree _ hz hm,K6 _ _⟩)).mono fun e w1 ⟨v,he,hf⟩=>by
   obtain⟨_,Fz,⟨A,c,rfl,_⟩,_⟩:=id hf;exact⟨(A,c),he,hf⟩
theorem RW {chk:Tr->Int->St->Int} {t:Tr} (h:(A8 chk t).2≠0):(A8 chk t).1=Ib:=by
 unfold A8 at h |-;split
 ·rename_i h1;rw[if_pos h1] at h;exact absurd rfl h
 ·rfl
theorem Xu (s:List UInt8):(D0 3 (Al s) (D8 s) (GS s)).2=Am A6 100000 s/\((Am A6 100000 s).2.2=0->(Am A6 100000 s).2.1=0):=by
 by_cases h1:(Al s).2.2=0
 ·have ht:Ba 100000 s=D8 s:=by unfold Ba;exact if_neg (fun h=>h h1)
  have hl:Am A6 100000 s=if (D8 s).2.2≠0 then (Ib,(D8 s).2.1,(D8 s).2.2) else ((GS s).1,0,(GS s).2):=by unfold Am;rw[ht];rfl
  have ha:D0 3 (Al s) (D8 s) (GS s)=if (D8 s).2.2≠0 then (DW,Ib,(D8 s).2.1,(D8 s).2.2) else if 3=2 then ((D8 s).1,Ib,0,0) else if (GS s).2≠0 then (DW,Ib,0,(GS s).2) else ((D8 s).1,(GS s).1,0,0):=by unfold D0;exact if_neg (fun h=>h h1)
  rw[ha,hl];by_cases h2:(D8 s).2.2=0
  ·by_cases h3:(GS s).2=0
   ·simp[h2,h3]
   ·simp[h2,h3,show(GS s).1=Ib from RW h3]
  ·simp[h2]
 ·have ht:Ba 100000 s=(DW,(Al s).2.1,(Al s).2.2):=by unfold Ba;exact if_pos h1
  have hl:Am A6 100000 s=(Ib,(Al s).2.1,(Al s).2.2):=by unfold Am;rw[ht];exact if_pos h1
  have ha:D0 3 (Al s) (D8 s) (GS s)=(DW,Ib,(Al s).2.1,(Al s).2.2):=by unfold D0;exact if_pos h1
  rw[ha,hl];exact⟨rfl,fun h=>absurd h h1⟩
theorem Af2 (no e:Int) (w:Y) (hg:Ea.ErrC w) (h0:e=0->no=0):Calls Tryz.prog 27 #[CP no e] w fun ev w'=>ev=.returned (.tuple #[I J no,I J e])/\Below w.heap.size w w':=by
 by_cases he:e=0
 ·rw[Lt he,he,h0 he];exact Ea.l_told0 w
 ·rw[Hd he];exact Ea.l_told no e w hg
theorem Et (s:ByteArray) (w:Y) (hW:FI w):
  Calls Tryz.prog 13 #[Q s] w fun e w'=>∃ q:Option Addr×Nat,e=.returned (.tuple #[Eh q.1 q.2 (Am A6 100000 s.data.toList).1,I J (Am A6 100000 s.data.toList).2.1,I J (Am A6 100000 s.data.toList).2.2])/\Fr w w' [Nq (Eh q.1 q.2 (Am A6 100000 s.data.toList).1) (Am A6 100000 s.data.toList).1]:=by
 have hA:=fun fb w' (h:FI w') hf=>VE s _ _ _ fb 3 [f3V s] w' (Afj h s) (.inr ⟨rfl,rfl⟩) hf;obtain⟨h1,h0⟩:=Xu s.data.toList;rw[h1] at hA;obtain⟨L,hL⟩:∃ x,Am A6 100000 s.data.toList=x:=⟨_,rfl⟩
 rw[hL] at hA h0 |-;clear h1 hL;refine V.enter _ Tryz.func13 (Mem.start (C:=Ao) w) ?_;refine W ?_;refine R.new fun b2 h2=>?_
 repeat refine W ?_
 refine R.new fun b5 h5=>?_
 repeat refine W ?_
 refine R.bs (m:=3) (fun fb hfb=>?_);refine R.cf (ι:=TY×Option Addr×Nat) (v:=fun x=>.tuple #[.agg (As x.1).toArray,Eh x.2.1 x.2.2 L.1,CP L.2.1 L.2.2]) (X:=fun x=>[Nq (Eh x.2.1 x.2.2 L.1) L.1]) (fun w' h'=>(hA fb w' (hW.to h'.1.below) (Cs.of_blk (h'.blk (List.Mem.head _)))).mono fun e w1 ⟨x,he,_,_,hf⟩=>⟨x,he,hf rfl⟩) (fun x=>?_)
 repeat (first | refine W ?_ | refine R.new fun _ _=>?_)
 refine R.c (fun w' h'=>Af2 L.2.1 L.2.2 w' (hW.to h'.1.below).errC h0) ?_
 repeat refine W ?_
 refine V.end (fun w' h'=>?_) (hv:=.agg rfl (by(repeat (first | exact List.Mem.head _ | apply List.Mem.tail))) (by intro w;kernel_rfl) (by intro w;simp;try rfl) (.tmp rfl (.tmp rfl .nil)));exact⟨x.2,rfl,(h'.sel:Mem Ao w [Nq _ _] w').to_fr⟩
end
section
open Go Go.Lib
def NQ (l:List Int):List UInt8:=l.flatMap fun n=>itoa n++[44]
abbrev Say:=Int×Sc×List UInt8×List UInt8
def Uq (tx:Sc->List UInt8) (c:List Int) (x:Nd):Say:=(x.kind,x.x,(BK x).flatMap fun k=>tx k++[44],NQ ((AB x).map fun k=>c.getD k.toNat 0))
def Bc (tx:Sc->List UInt8) (ns:List Nd) (c:List Int):List Say:=ns.map (Uq tx c)
def H6 (tx:Sc->List UInt8) (ns:List Nd) (c:List Int):List Int:=FL (Bc tx ns c) []
def H5 (tx:Sc->List UInt8) (ns:List Nd) (c:List Int):Nat:=(Bp (Bc tx ns c) []).length
def On (tx:Sc->List UInt8) (ns:List Nd):Nat->Nat->Nat->List Int->List Int
 | 0,_,_,c=>c
 | f+1,n,more,c=>if n<more then On tx ns f more (H5 tx ns c) (H6 tx ns c) else c
def MW (n:Nat):List Int:=List.replicate n 0
def LP (tx:Sc->List UInt8) (ns:List Nd):List Int:=On tx ns (ns.length+1) 0 (H5 tx ns (MW ns.length)) (H6 tx ns (MW ns.length))
def cls (tx:Sc->List UInt8) (ns:List Nd):Nat->List Int
 | 0=>MW ns.length
 | k+1=>H6 tx ns (cls tx ns k)
def VK (ns:List Nd):Prop:=∀ x∈ns,∀ k∈x.kids,0<=k/\k<ns.length
section
variable {tx:Sc->List UInt8} {ns:List Nd}
def IM (n:Nat) (x:Nd):Nd:=⟨x.kind,x.x,x.keys,x.kids.map (·+(n:Int))⟩
def BJ (a b:List Nd):List Nd:=a++b.map (IM a.length)
def IE (tx:Sc->List UInt8) (g h:Gf):Bool:=decide ((LP tx (BJ g.nodes h.nodes)).getD g.root.toNat 0=(LP tx (BJ g.nodes h.nodes)).getD (h.root.toNat+g.nodes.length) 0)
structure OkG (g:Gf):Prop where
 rng:VK g.nodes
 root:0<=g.root/\g.root<g.nodes.length
 len:g.nodes.length<=200
end
end
section
set_option maxRecDepth 100000
def Qs:Sc:=⟨2,1,⟨#[]⟩⟩
def XY (x:Sc):List UInt8:=(DN x).1.data.toList
def Ai6:ByteArray:=⟨#[38,97,10,45,32,42,97,10,45,32,49,10]⟩
def Ww:ByteArray:=⟨#[107,58,32,42,120]⟩
def Ajh:ByteArray:=⟨#[97,10,9,98]⟩
def Ahw:ByteArray:=⟨#[123,97,58,32,49,44,32,98,58,32,91,49,93,125]⟩
def Ags:ByteArray:=⟨#[34,98,34,58,10,32,32,45,32,49,10,97,58,32,49,32,35,32,120,10]⟩
def O6 (c:UInt8):Sc:=⟨3,0,⟨#[c]⟩⟩
def g1:Gf:=⟨0,[⟨1,A4,[],[0,1]⟩,⟨0,Qs,[],[]⟩]⟩
def g4:Gf:=⟨0,[⟨2,A4,[O6 97,O6 98],[1,2]⟩,⟨0,Qs,[],[]⟩,⟨1,A4,[],[3]⟩,⟨0,Qs,[],[]⟩]⟩
def g5:Gf:=⟨0,[⟨2,A4,[O6 98,O6 97],[1,3]⟩,⟨1,A4,[],[2]⟩,⟨0,Qs,[],[]⟩,⟨0,Qs,[],[]⟩]⟩
theorem Ajl:Am A6 100000 Ai6.data.toList=(g1,0,0):=by kernel_rfl
theorem VB:(Ba 100000 Ww.data.toList).1.kind=2/\(Ba 100000 Ww.data.toList).2=(0,0)/\Am A6 100000 Ww.data.toList=(Ib,0,100):=⟨by kernel_rfl,by kernel_rfl,by kernel_rfl⟩
theorem Aj9:Am A6 100000 Ajh.data.toList=(Ib,2,80):=by kernel_rfl
theorem says4:Am A6 100000 Ahw.data.toList=(g4,0,0):=by kernel_rfl
theorem Yk:Am A6 100000 Ags.data.toList=(g5,0,0):=by kernel_rfl
theorem Acs:IE XY g4 g5=true:=by kernel_rfl
theorem Ajf:IZ Ap g4=(0,0)/\IZ Ap g5=(0,0):=⟨by kernel_rfl,by kernel_rfl⟩
end
section
section
variable {κ:Type} [DecidableEq κ] {P:Program} {enc:κ->Value}
theorem KU {k:TypeId} (hE:∀ x y w,(Op.equal k (enc x) (enc y)).run P w=.ok (decide (x=y)) w) (x:κ) (w:Y):∀ (m:List (κ×Value)) (es:List MapEntry) (i:Nat),H9 enc m es→
  (Instr.findAsking k (enc x) es i).run P w=.ok ((D3 x m).bind fun j=>(es[j]?).map fun e=>(i+j,e.val)) w
 | [],es,i,h=>by
  have:es=[]:=by simpa[H9] using h
  subst this;simp[Instr.findAsking,D3]
 | (y,u)::r,[],i,h=>by cases h
 | (y,u)::r,e0::es,i,h=>by
  unfold H9 at h;simp only[List.map_cons,List.cons.injEq,Prod.mk.injEq] at h;obtain⟨⟨h1,h2⟩,h3⟩:=h;have ih:=KU hE x w r es (i+1) h3;unfold Instr.findAsking D3;rw[h1];simp only[Sem.run_bind,hE,Result.andThen_ok]
  by_cases e:x=y
  ·subst e;simp[pure,Sem.run]
  ·have e':¬y=x:=fun h=>e h.symm;rw[if_neg e'];simp only[e,decide_false,Bool.false_eq_true,if_false]
   rw[ih];cases D3 x r with
   | none=>rfl
   | some j=>simp[Nat.add_assoc,Nat.add_comm 1 j]
theorem Hs.asks {k:TypeId} {dk:TypeDesc} (hd:P.underlying k=F dk) (hn:∀ u v,Instr.sameNow dk u v=O) (hC:∀ em x w,(Instr.checkKey em 10000 k (enc x)).run P w=.ok () w) (hE:∀ x y w,(Op.equal k (enc x) (enc y)).run P w=.ok (decide (x=y)) w) (hs:∀ x,Instr.sameBits 10000 (enc x) (enc x)=true):Hs P k enc where
 check:=hC
 same:=hs
 find x m es w hm:=by
  have h1:(Instr.findKey k (enc x) es).run P w=(Instr.findAsking k (enc x) es).run P w:=by
   unfold Instr.findKey;simp only[Sem.run_bind,run_underlying hd,Result.andThen_ok]
   cases es with
   | nil=>rfl
   | cons e0 es=>simp[Instr.findNow,hn]
  rw[h1,KU hE x w m es 0 hm];cases D3 x m with
  | none=>rfl
  | some j=>simp
end
end
section
structure ElB (P:Program) (tt u e:TypeId):Prop where
 und:P.underlying tt=F (.slice e)
 str:P.underlying u=F .string
 info:(P.info? e).map (fun i=>(i.zero,i.size,i.bytes))=F (F (.int .u8 0),1,1)
theorem Aet {P:Program} (w:Y) (tt u ty e:TypeId) (hE:ElB P tt u e) (v:Value) (n:Nat) (xs:List Value) (hown:w.ownsRow 0 e 1 v n xs) (s:ByteArray) (h1:n+s.size<=1000000):
  ∃ v' w',(Builtin.append_ #[tt,u] ty #[v,Q s]).run P w=.ok v' w'/\w'.ownsRow 0 e 1 v' (n+s.size) (xs++strCells s)/\w.grownBy w' v.ownBlock/\(v'.ownBlock=v.ownBlock\/v'.ownBlock=F w.heap.size):=by
 obtain⟨i,hi,hz,hsz,hby⟩:∃ i,P.info? e=F i/\i.zero=F (.int .u8 0)/\i.size=1/\i.bytes=1:=by
  have:=hE.info;cases hi:P.info? e with
  | none=>rw[hi] at this;cases this
  | some i=>
   rw[hi] at this;simp only[Option.map_some,Option.some.injEq,Prod.mk.injEq] at this;exact⟨i,rfl,this.1,this.2.1,this.2.2⟩
 have hmax:n+s.size<=maxLen:=by unfold maxLen;omega
 obtain⟨v',w',hr,ho,hg,hn⟩:=run_append_own_string (P:=P) w 0 tt u ty e i hE.und hE.str hi hz hsz hby v n xs hown s hmax (by omega) (Nat.zero_le _);refine⟨v',w',hr,ho,hg,?_⟩;rcases hown.2 with ⟨rfl,rfl⟩ | ⟨g,cap,cur,rfl,hbg,hgg,hnc,hcm,hcs,htake⟩
 ·by_cases hs0:s.size=0
  ·rw[hn.2 ⟨rfl,hs0⟩];exact .inl rfl
  ·have hr2:=run_append_nil_string (P:=P) w tt u ty e i (.int .u8 0) hE.und hE.str hi hz s (by omega) (by omega) (by rw[hby];omega);rw[hr] at hr2;injection hr2 with e1 e2;rw[e1];exact .inr rfl
 ·have hcs':cur.size=cap:=by simpa using hcs
  by_cases hroom:n+s.size<=cap
  ·have hr2:=run_append_room_string (P:=P) w tt u ty e i hE.und hE.str hi hsz g n cap cur hgg s hroom (by omega);rw[hr] at hr2;injection hr2 with e1 e2;rw[e1];exact .inl rfl
  ·have hxl:xs.length=n:=by simpa using hown.1
   have holds:∀ j u,xs[j]? =F u->w.cell? ((⟨g,0,O⟩:Addr).add j)=F u:=World.ownsRow.cells hown (g:=g) rfl;have hr2:=run_append_grow_string (P:=P) w tt u ty e i (.int .u8 0) hE.und hE.str hi hz ⟨g,0,O⟩ n cap xs (by rw[hsz];simpa using hxl) holds s (by omega) (by omega) (by rw[hby];exact growslice_fits (by omega) (by omega));rw[hr] at hr2;injection hr2 with e1 e2;rw[e1];exact .inr rfl
section
variable {P:Program} {Fz:Fence} {Qr:Exit->Act->Y->Prop} {n:Nat} {ds:List Deferred} {d:Bool} {ops:Array Oper} {K:Act->Y->Prop} {i:Nat} {pl pend pend':List Nat} {l l':Env}
 {t:Nat} {ty:TypeId} {ps:String} {af:Array Edge} {gd:Option (Nat×Bool)} {C:Nat->Prop} {w0:Y} {A:List Aj}
theorem R.apps {s x:Operand} {tt u e:TypeId} {k:Nat} {v:Value} {xs:List Value} {str:ByteArray} {A':Value->List Aj} (hE:ElB P tt u e) (hnm:k+str.size<=1000000)
  (h:∀ a c,Rj P n ds d ops K pl pend' (Mem C w0 (A' (Z a (k+str.size) c))) ((t,Z a (k+str.size) c)::l))
  (ho:Aw ops.toList i=F ⟨F t,.call {callee:=.builtin .append,args:=#[s,x],argTypes:=#[tt,u]},ty,ps,af,gd⟩:=by rfl) (hs:ev l s=F v:=by rfl) (hx:ev l x=F (Q str):=by rfl)
  (hr:∀ v',Dt (Af e 1 v k xs) (Af e 1 v' (k+str.size) (xs++strCells str)) A (A' v'):=by intro v';(repeat (first | exact Dt.hd | apply Dt.tl));first | done | fail)
  (hp:Sq (ι:=Option Addr×Nat) d ops i pend pend' (fun y=>Mem C w0 (A' (Z y.1 (k+str.size) y.2))) (Mem C w0 A):=by first | exact .inl ⟨rfl,rfl⟩ | exact .inr (.inl ⟨rfl,rfl⟩)) (hg:Cv ops.toList l gd=F true:=by rfl):Rj P n ds d ops K (i::pl) pend (Mem C w0 A) l:=
 R.eff (ι:=Option Addr×Nat) (Si:=fun y=>Mem C w0 (A' (Z y.1 (k+str.size) y.2))) (li:=fun y=>(t,Z y.1 (k+str.size) y.2)::l) ho hg rfl (fun a w K' ha hd hw hk=>by
  obtain⟨G,⟨g1,g2⟩,g3,_⟩:=hw.rep (hr v);obtain⟨v',w',hrun,k1,k2,k4⟩:=Aet (P:=P) w tt u ty e hE v k xs g1 str hnm;obtain⟨G2,⟨_,i2⟩,i3,i4⟩:=hw.rep (hr v');obtain⟨a',c',hv'⟩:∃ a' c',v'=Z a' (k+str.size) c':=by
   rcases k1.2 with ⟨e1,e2⟩ | ⟨g,cap,cur,e1,_⟩
   ·exact⟨O,0,by rw[e1,e2]⟩
   ·exact⟨_,cap,e1⟩
  subst hv';have hm:Mem C w0 (A' (Z a' (k+str.size) c')) w':=by
   refine i4 (fun b=>(Value.slice a' (k+str.size) c').ownBlock=F b) w' ⟨k1,fun b hb=>hb⟩ ⟨k2.os,k2.tape,k2.output,k2.size,fun b hb hn=>k2.block b hb (fun e=>hn (i2 b e.symm))⟩ (fun b hb=>⟨?_,?_⟩)
   ·rcases k1.2 with ⟨e1,_⟩ | ⟨g,cap,cur,e1,_,hg,_⟩
    ·rw[e1] at hb;cases hb
    ·rw[e1] at hb;cases hb;exact(Gl hg)
   ·rcases k4 with k4 | k4
    ·exact .inl (i2 b (k4.symm.trans hb))
    ·rw[k4] at hb;cases hb;exact .inr Nr
  unfold Eo;have:(execOp a.eval ⟨F t,.call {callee:=.builtin .append,args:=#[s,x],argTypes:=#[tt,u]},ty,ps,af,gd⟩).run P w=.ok (.value (Z a' (k+str.size) c')) w':=by
   simp[execOp,resolve,invoke,builtin,Sem.run_bind,pure,ha.ev hs,ha.ev hx,hrun]
  rw[this];exact hk (a',c') _ _ hm (hd _)) hp (fun y=>h y.1 y.2)
end
end
section
set_option maxRecDepth 100000
def bdP (b:Nat) (u:Bool):Value:=bif u then .pointer (F ⟨b,0,O⟩) else .pointer O
def bdB (b:Nat) (acc:List UInt8) (q:Bool×Value):List Aj:=[blk b [bdP b q.1,q.2] TB,Af T8 1 q.2 acc.length (Lib.byteCells acc)]
def MO (b:Nat) (acc:List UInt8):Aj:=Hf fun q:Bool×Value=>star (bdB b acc q)
theorem Rx {C:Nat->Prop} {w0 w:Y} {A Z0:List Aj} {b:Nat} {acc:List UInt8} (h:Mem C w0 A w) (hk:Pk (MO b acc) A Z0):∃ q,Mem C w0 (bdB b acc q++Z0) w:=let ⟨q,hq⟩:=(h.pk hk).ex;⟨q,hq.star⟩
theorem NY {C:Nat->Prop} {w0 w:Y} {Z0:List Aj} {b:Nat} {acc:List UInt8} (q:Bool×Value) (h:Mem C w0 (bdB b acc q++Z0) w):Mem C w0 (MO b acc::Z0) w:=Mem.toEx (f:=fun q=>star (bdB b acc q)) q (Mem.toStar (B:=bdB b acc q) h)
theorem UB {C:Nat->Prop} {w0 w:Y} {Z0:List Aj} {b:Nat} (h:Mem C w0 (blk b [.pointer O,Z O 0 0] TB::Z0) w):Mem C w0 (MO b []::Z0) w:=NY (false,Z O 0 0) ((h.ownNil T8 1).sel (.cons (.tl .hd) (.cons .hd (NT.refl _))))
theorem elB:ElB Tryz.prog 71 9 T8:=⟨by kernel_rfl,by kernel_rfl,by kernel_rfl⟩
theorem Ahf (b:Nat) (u:Bool) (v:Value) (w:Y):B9 Tryz.prog 54 #[.pointer (F ⟨b,0,O⟩)] w (blk b [bdP b u,v] TB) (fun _:Unit=>.tuple #[]) (fun _=>blk b [bdP b true,v] TB):=B9.blk (cs':=fun _:Unit=>[bdP b true,v]) fun hb=>by
 have c0:w.cell? ⟨b,0,O⟩=F (bdP b u):=by simp[World.cell?,hb]
 cases u with
 | true=>
  refine(Gq b w c0).mono ?_;rintro e w' ⟨rfl,rfl⟩;exact⟨(),rfl,AI.refl _ _,hb⟩
 | false=>
  refine(FE b w c0 (by simp[World.shape?,hb]) (by simp[World.frozen?,hb])).mono ?_;rintro e w' ⟨rfl,rfl⟩;exact⟨(),rfl,⟨rfl,rfl,rfl,by simp[World.setCell],fun k _ hk=>Bh _ _ _ _ hk⟩,by simp[World.setCell,Array.getElem?_modify,hb];rfl⟩
theorem Abc (b:Nat) (acc:List UInt8) (s:ByteArray) (w:Y) (hn:acc.length+s.size<=1000000):
  B9 Tryz.prog 236 #[.pointer (F ⟨b,0,O⟩),Q s] w (MO b acc) (fun _:Unit=>.tuple #[I J s.size,.nilIface]) (fun _=>MO b (acc++s.data.toList)):=by
 intro Fz hX hF;refine V.enter _ Tryz.func236 (Mem.startX hX hF) ?_;refine V.any (fun w' h'=>Rx h' Pk.hd) (fun q=>?_);obtain⟨u,v⟩:=q;show V _ _ _ _ _ _ (Mem Fz w [blk b [bdP b u,v] TB,Af T8 1 v acc.length (Lib.byteCells acc)]) _;refine V.know (p:=∃ LA lc,v=Z LA acc.length lc) (fun w' h'=>(AL h' (List.Mem.tail _ (List.Mem.head _))).elim (fun⟨e,e0⟩=>⟨O,0,by rw[e,e0]⟩) (fun⟨g,c,e⟩=>⟨_,c,e⟩)) fun hv=>?_;obtain⟨LA,lc,rfl⟩:=hv
 repeat refine W ?_
 refine R.cw (fun w' h'=>Ahf b u _ w') (fun _=>?_);iterate 2 refine W ?_
 repeat refine W ?_
 refine R.apps elB hn (fun a c=>?_)
 repeat refine W ?_
 refine V.end fun w' h'=>?_;refine⟨(),rfl,Mem.toW (NY (true,Z a (acc.length+s.size) c) ?_)⟩;have e:Lib.byteCells acc++Lib.strCells s=Lib.byteCells (acc++s.data.toList):=by simp[Lib.byteCells,Lib.strCells]
 rw[e,show acc.length+s.size=(acc++s.data.toList).length by rw[List.length_append,Array.length_toList];rfl] at h';rw[show acc.length+s.size=(acc++s.data.toList).length by rw[List.length_append,Array.length_toList];rfl];exact h'.sel
theorem ZN {w0 w:Y} {A Z0:List Aj} {b:Nat} {acc:List UInt8} (h:Mem Ao w0 A w) (hk:Pk (MO b acc) A Z0):
  Calls Tryz.prog 38 #[.pointer (F ⟨b,0,O⟩)] w fun e w'=>e=.returned (Q ⟨acc.toArray⟩)/\Mem Ao w0 [] w':=by
 obtain⟨⟨u,v⟩,hq⟩:=Rx h hk;obtain⟨hx,F1,⟨a1,a2⟩,a3,F2,⟨b1,b2⟩,b3,_⟩:=hq;have hne:v.ownBlock≠F b:=fun e=>(b3 b (b2 b e)).2 a1;have hge:∀ k,F1 k\/F2 k->w0.heap.size<=k:=fun k hk=>hk.elim (fun h=>(a3 k h).2.elim id (fun e=>e.elim)) (fun h=>(b3 k h).1.2.elim id (fun e=>e.elim));have hown:w.ownsRow w0.heap.size T8 1 v acc.length (Lib.byteCells acc):=by
  refine⟨b1.1,b1.2.imp id ?_⟩;rintro⟨g,cap,cur,rfl,_,r⟩;exact⟨g,cap,cur,rfl,hge g (.inr (b2 g rfl)),r⟩
 have hl:(Lib.byteCells acc).length=acc.length:=by simp[Lib.byteCells]
 have hI:Lib.IsBuilderF TB T8 w0.heap.size b (Lib.byteCells acc) w:=by
  have hB:∀ p,w.heap[b]? =F (.cells #[p,v] TB (0,0))->Lib.BuilderAtF TB T8 w0.heap.size b p (Lib.byteCells acc) w:=fun p hp=>Lib.BuilderAtF.of ⟨hge b (.inl a1),v,hp,by rw[hl];exact hown,hne⟩;cases u with
  | true=>exact .inr (hB _ a2)
  | false=>exact .inl (hB _ a2)
 refine(Tryz.Builder_String_any_k w0.heap.size b acc w hI hx.size).mono ?_;rintro e w' ⟨rfl,_,hb,_⟩;exact⟨rfl,AI.of_below (hx.below.trans hb),trivial⟩
end
section
set_option maxRecDepth 100000
deriving instance DecidableEq for Nd
deriving instance DecidableEq for Gf
theorem Akx (x y:Sc) (w:Y):(binOp .neq 36 (Di x) (Di y)).run Tryz.prog w=.ok (.bool (!decide (x=y))) w:=by
 have:=ZY x y w;have e1:binOp .eql 36 (Di x) (Di y)=(do let r <- Op.equal 36 (Di x) (Di y);pure (Value.bool r)):=rfl;have e2:binOp .neq 36 (Di x) (Di y)=(do let r <- Op.equal 36 (Di x) (Di y);pure (Value.bool !r)):=rfl;rw[e1,Sem.run_bind] at this;rw[e2,Sem.run_bind];cases hq:(Op.equal 36 (Di x) (Di y)).run Tryz.prog w<;>rw[hq] at this<;>simp_all [Result.andThen,pure,Sem.run]
theorem Ul {α:Type} {k:Nat} {l m:List α} (hl:l.length=m.length) (hk:l.length<=k) (h:∀ j,j<k->l[j]? =m[j]?):l=m:=by
 apply List.ext_getElem? fun j=>?_;by_cases hj:j<k
 ·exact h j hj
 ·rw[List.getElem?_eq_none (by omega),List.getElem?_eq_none (by omega)]
theorem Aa1 (S S2:Nat->Prop) (A B:Option Addr) (c c2:Nat) (ks ls:List Sc) (w:Y) (h:Fk w S A ks) (h2:Fk w S2 B ls) (hn:ks.length<=1000000):
  Calls Tryz.prog 29 #[Z A ks.length c,Z B ls.length c2] w fun e w'=>e=.returned (.bool (decide (ks=ls)))/\Below w.heap.size w w':=by
 refine V.enter _ Tryz.func29 (Mem.start (C:=Ao) w) ?_
 repeat refine W ?_
 refine V.if (fun he=>?_) (fun he=>?_)
 ·repeat refine W ?_
  refine V.end fun w' h'=>?_;have:ks≠ls:=fun e=>by subst e;simp at he
  exact⟨by simp[one,this],h'.1.below⟩
 ·have hl:ks.length=ls.length:=by simp at he;omega
  repeat refine W ?_
  refine V.loop (fun k=>k<=ks.length/\∀ j,j<k->ks[j]? =ls[j]?) (fun _=>Mem Ao w []) (fun k=>[(13,I J k),(12,I J ks.length),(0,Z A ks.length c),(1,Z B ls.length c2)]) (ks.length - ·) 0 ⟨by omega,fun j hj=>by omega⟩ (fun w h=>h) ⟨rfl,rfl,rfl,rfl,trivial⟩ ?_;rintro k ⟨hk,hne⟩
  repeat refine W ?_
  refine V.ifp (fun hlt=>?_) (fun hge=>?_)
  ·have hlt:k<ks.length:=by omega
   obtain⟨x,hx⟩:∃ x,ks[k]? =F x:=⟨_,List.getElem?_eq_getElem hlt⟩
   obtain⟨y,hy⟩:∃ y,ls[k]? =F y:=⟨_,List.getElem?_eq_getElem (by omega)⟩
   obtain⟨b,o,rfl,_,hc⟩:=h k x hx;obtain⟨b2,o2,rfl,_,hc2⟩:=h2 k y hy
   repeat refine W ?_
   refine R.ix hlt ?_;refine R.lo 0 hc ?_
   repeat refine W ?_
   refine R.ix (show k<ls.length by omega) ?_;refine R.lo 0 hc2 ?_;refine R.bin (Akx x y) ?_
   repeat refine W ?_
   refine V.if (fun he=>?_) (fun he=>?_)
   ·repeat refine W ?_
    refine V.end fun w' h'=>?_;have:ks≠ls:=fun e=>by subst e;rw[hx] at hy;cases hy;simp at he
    exact⟨by simp[one,this],h'.1.below⟩
   ·repeat refine W ?_
    exact V.again (k+1) rfl ⟨hlt,fun j hj=>by
     by_cases e:j=k
     ·subst e;rw[hx,hy];simp at he;rw[he]
     ·exact hne j (by omega)⟩
  ·repeat refine W ?_
   refine V.end fun w' h'=>?_;have:ks=ls:=Ul hl (k:=k) (by omega) hne;exact⟨by simp[one,this],h'.1.below⟩
theorem Ad2 (S S2:Nat->Prop) (A B:Option Addr) (c c2:Nat) (ks ls:List Int) (w:Y) (h:GT w S A ks) (h2:GT w S2 B ls) (hn:ks.length<=1000000):
  Calls Tryz.prog 30 #[Z A ks.length c,Z B ls.length c2] w fun e w'=>e=.returned (.bool (decide (ks=ls)))/\Below w.heap.size w w':=by
 refine V.enter _ Tryz.func30 (Mem.start (C:=Ao) w) ?_
 repeat refine W ?_
 refine V.if (fun he=>?_) (fun he=>?_)
 ·repeat refine W ?_
  refine V.end fun w' h'=>?_;have:ks≠ls:=fun e=>by subst e;simp at he
  exact⟨by simp[one,this],h'.1.below⟩
 ·have hl:ks.length=ls.length:=by simp at he;omega
  repeat refine W ?_
  refine V.loop (fun k=>k<=ks.length/\∀ j,j<k->ks[j]? =ls[j]?) (fun _=>Mem Ao w []) (fun k=>[(13,I J k),(12,I J ks.length),(0,Z A ks.length c),(1,Z B ls.length c2)]) (ks.length - ·) 0 ⟨by omega,fun j hj=>by omega⟩ (fun w h=>h) ⟨rfl,rfl,rfl,rfl,trivial⟩ ?_;rintro k ⟨hk,hne⟩
  repeat refine W ?_
  refine V.ifp (fun hlt=>?_) (fun hge=>?_)
  ·have hlt:k<ks.length:=by omega
   obtain⟨x,hx⟩:∃ x,ks[k]? =F x:=⟨_,List.getElem?_eq_getElem hlt⟩
   obtain⟨y,hy⟩:∃ y,ls[k]? =F y:=⟨_,List.getElem?_eq_getElem (by omega)⟩
   obtain⟨b,o,rfl,_,hc⟩:=h k x hx;obtain⟨b2,o2,rfl,_,hc2⟩:=h2 k y hy
   repeat refine W ?_
   refine R.ix hlt ?_;refine R.lo 0 hc ?_
   repeat refine W ?_
   refine R.ix (show k<ls.length by omega) ?_;refine R.lo 0 hc2 ?_
   repeat refine W ?_
   refine V.if (fun he=>?_) (fun he=>?_)
   ·repeat refine W ?_
    refine V.end fun w' h'=>?_;have:ks≠ls:=fun e=>by subst e;rw[hx] at hy;cases hy;simp at he
    exact⟨by simp[one,this],h'.1.below⟩
   ·repeat refine W ?_
    exact V.again (k+1) rfl ⟨hlt,fun j hj=>by
     by_cases e:j=k
     ·subst e;rw[hx,hy];simp at he;rw[he]
     ·exact hne j (by omega)⟩
  ·repeat refine W ?_
   refine V.end fun w' h'=>?_;have:ks=ls:=Ul hl (k:=k) (by omega) hne;exact⟨by simp[one,this],h'.1.below⟩
end
section
set_option maxHeartbeats 2000000
set_option maxRecDepth 100000
theorem XD (S S2:Nat->Prop) (x y:Nd) (KA KB IA IB:Option Addr) (kc kd ic id:Nat) (w:Y) (h1:Fk w S KA x.keys) (h2:GT w S IA x.kids) (h3:Fk w S2 KB y.keys) (h4:GT w S2 IB y.kids) (hn:x.keys.length<=1000000/\x.kids.length<=1000000):
  Calls Tryz.prog 28 #[.agg (NP x (Z KA x.keys.length kc) (Z IA x.kids.length ic)).toArray,.agg (NP y (Z KB y.keys.length kd) (Z IB y.kids.length id)).toArray] w fun e w'=>e=.returned (.bool (decide (x=y)))/\Below w.heap.size w w':=by
 have hd:decide (x=y)=(decide (x.kind=y.kind)&&decide (x.x=y.x)&&decide (x.keys=y.keys)&&decide (x.kids=y.kids)):=by
  cases x;cases y;simp[Bool.and_assoc]
 refine V.enter _ Tryz.func28 (Mem.start (C:=Ao) w) ?_
 repeat (first | refine W ?_ | refine R.new fun _ _=>?_)
 have hto:∀ {w':Y} {S:Nat->Prop},AI Ao w w'->∀ b o v,S b->w.cell? ⟨b,o,O⟩=F v->w'.cell? ⟨b,o,O⟩=F v/\S b:=fun hx b o v hb hv=>⟨hx.cell hv (fun e=>e),hb⟩
 by_cases e1:x.kind=y.kind
 ·refine R.re 10 (v:=.bool (x.kind==y.kind)) (v':=.bool true) (by simp[e1]) ?_
  repeat refine W ?_
  refine R.bin (ZY x.x y.x) ?_
  repeat refine W ?_
  by_cases e2:x.x=y.x
  ·refine R.re 17 (v:=.bool (decide (x.x=y.x))) (v':=.bool true) (by simp[e2]) ?_
   repeat refine W ?_
   refine R.c (fun w' h'=>Aa1 S S2 KA KB kc kd x.keys y.keys w' (h1.to (hto h'.1)) (h3.to (hto h'.1)) hn.1) ?_
   repeat refine W ?_
   by_cases e3:x.keys=y.keys
   ·refine R.re 24 (v:=.bool (decide (x.keys=y.keys))) (v':=.bool true) (by simp[e3]) ?_
    repeat refine W ?_
    refine R.c (fun w' h'=>Ad2 S S2 IA IB ic id x.kids y.kids w' (h2.to (hto h'.1)) (h4.to (hto h'.1)) hn.2) ?_
    repeat refine W ?_
    refine V.end fun w' h'=>?_;exact⟨by rw[hd];simp[one,e1,e2,e3],h'.1.below⟩
   ·refine R.re 24 (v:=.bool (decide (x.keys=y.keys))) (v':=.bool false) (by simp[e3]) ?_
    repeat refine W ?_
    refine V.end fun w' h'=>?_;exact⟨by rw[hd];simp[one,e3],h'.1.below⟩
  ·refine R.re 17 (v:=.bool (decide (x.x=y.x))) (v':=.bool false) (by simp[e2]) ?_
   repeat refine W ?_
   refine V.end fun w' h'=>?_;exact⟨by rw[hd];simp[one,e2],h'.1.below⟩
 ·refine R.re 10 (v:=.bool (x.kind==y.kind)) (v':=.bool false) (by simp[e1]) ?_
  repeat refine W ?_
  refine V.end fun w' h'=>?_;exact⟨by rw[hd];simp[one,e1],h'.1.below⟩
theorem WX (S S2:Nat->Prop) (A B:Option Addr) (c c2:Nat) (ns ms:List Nd) (w:Y) (h:CL w S A ns) (h2:CL w S2 B ms) (hn:SmN ns):
  Calls Tryz.prog 31 #[Z A ns.length c,Z B ms.length c2,.func (.func 28) #[] #[]] w fun e w'=>e=.returned (.bool (decide (ns=ms)))/\Below w.heap.size w w':=by
 have hto:∀ {w':Y} {S:Nat->Prop},AI Ao w w'->∀ b o v,S b->w.cell? ⟨b,o,O⟩=F v->w'.cell? ⟨b,o,O⟩=F v/\S b:=fun hx b o v hb hv=>⟨hx.cell hv (fun e=>e),hb⟩
 have hn1:=hn.1;refine V.enter _ Tryz.func31 (Mem.start (C:=Ao) w) ?_
 repeat refine W ?_
 refine V.if (fun he=>?_) (fun he=>?_)
 ·repeat refine W ?_
  refine V.end fun w' h'=>?_;have:ns≠ms:=fun e=>by subst e;simp at he
  exact⟨by simp[one,this],h'.1.below⟩
 ·have hl:ns.length=ms.length:=by simp at he;omega
  repeat refine W ?_
  refine V.loop (fun k=>k<=ns.length/\∀ j,j<k->ns[j]? =ms[j]?) (fun _=>Mem Ao w []) (fun k=>[(17,I J k),(16,I J ns.length),(15,Z A ns.length c),(1,Z B ms.length c2),(2,.func (.func 28) #[] #[])]) (ns.length - ·) 0 ⟨by omega,fun j hj=>by omega⟩ (fun w h=>h) ⟨rfl,rfl,rfl,rfl,rfl,trivial⟩ ?_;rintro k ⟨hk,hne⟩
  repeat refine W ?_
  refine V.ifp (fun hlt=>?_) (fun hge=>?_)
  ·have hlt:k<ns.length:=by omega
   obtain⟨x,hx⟩:∃ x,ns[k]? =F x:=⟨_,List.getElem?_eq_getElem hlt⟩
   obtain⟨y,hy⟩:∃ y,ms[k]? =F y:=⟨_,List.getElem?_eq_getElem (by omega)⟩
   obtain⟨b,o,KA,kc,IA,ic,rfl,_,hc,Se,hi1⟩:=h k x hx;obtain⟨b2,o2,KB,kd,IB,id,rfl,_,hc2,hk2,hi2⟩:=h2 k y hy
   repeat refine W ?_
   refine R.ix hlt ?_;refine R.lo 0 hc ?_
   repeat (first | refine W ?_ | refine R.new fun _ _=>?_)
   refine R.ix (show k<ms.length by omega) ?_;refine R.lo 0 hc2 ?_
   repeat (first | refine W ?_ | refine R.new fun _ _=>?_)
   refine R.c (fun w' h'=>XD S S2 x y KA KB IA IB kc kd ic id w' (Se.to (hto h'.1)) (hi1.to (hto h'.1)) (hk2.to (hto h'.1)) (hi2.to (hto h'.1)) (hn.2 x (List.mem_of_getElem? hx))) ?_
   repeat refine W ?_
   refine V.if (fun he=>?_) (fun he=>?_)
   ·repeat refine W ?_
    refine V.end fun w' h'=>?_;have:ns≠ms:=fun e=>by subst e;rw[hx] at hy;cases hy;simp at he
    exact⟨by simp[one,this],h'.1.below⟩
   ·repeat refine W ?_
    exact V.again (k+1) rfl ⟨hlt,fun j hj=>by
     by_cases e:j=k
     ·subst e;rw[hx,hy];simp at he;rw[he]
     ·exact hne j (by omega)⟩
  ·repeat refine W ?_
   refine V.end fun w' h'=>?_;have:ns=ms:=Ul hl (k:=k) (by omega) hne;exact⟨by simp[one,this],h'.1.below⟩
theorem TG (S S2:Nat->Prop) (A B:Option Addr) (c c2:Nat) (g g2:Gf) (w:Y) (h:CL w S A g.nodes) (h2:CL w S2 B g2.nodes) (hn:SmN g.nodes):
  Calls Tryz.prog 14 #[Eh A c g,Eh B c2 g2] w fun e w'=>e=.returned (.bool (decide (g=g2)))/\Below w.heap.size w w':=by
 have hto:∀ {w':Y} {S:Nat->Prop},AI Ao w w'->∀ b o v,S b->w.cell? ⟨b,o,O⟩=F v->w'.cell? ⟨b,o,O⟩=F v/\S b:=fun hx b o v hb hv=>⟨hx.cell hv (fun e=>e),hb⟩
 have hd:decide (g=g2)=(decide (g.root=g2.root)&&decide (g.nodes=g2.nodes)):=by cases g;cases g2;simp
 refine V.enter _ Tryz.func14 (Mem.start (C:=Ao) w) ?_
 repeat (first | refine W ?_ | refine R.new fun _ _=>?_)
 by_cases e1:g.root=g2.root
 ·refine R.re 11 (v:=.bool (g.root==g2.root)) (v':=.bool true) (by simp[e1]) ?_
  repeat refine W ?_
  refine R.c (fun w' h'=>WX S S2 A B c c2 g.nodes g2.nodes w' (h.to (hto h'.1)) (h2.to (hto h'.1)) hn) ?_
  repeat refine W ?_
  refine V.end fun w' h'=>?_;exact⟨by rw[hd];simp[one,e1],h'.1.below⟩
 ·refine R.re 11 (v:=.bool (g.root==g2.root)) (v':=.bool false) (by simp[e1]) ?_
  repeat refine W ?_
  refine V.end fun w' h'=>?_;exact⟨by rw[hd];simp[one,e1],h'.1.below⟩
end
section
set_option maxRecDepth 100000
theorem JW (S:Nat->Prop) (rt:Sc->Bool) (g:Gf) (A:Option Addr) (c:Nat) (w:Y) (h:CL w S A g.nodes) (hsm:SmN g.nodes) (hR:∀ x∈g.nodes,A7 139 rt x.x w/\∀ y∈x.keys,A7 139 rt y w) (hD:DF w S) (hg:Ea.ErrC w):
  Calls Tryz.prog 20 #[Eh A c g] w fun e w'=>e=.returned (.tuple #[I J (IZ rt g).1,I J (IZ rt g).2])/\Below w.heap.size w w':=by
 have h0:(IZ rt g).2=0->(IZ rt g).1=0:=by
  unfold IZ;split
  ·intro e;cases e
  ·split
   ·intro e;cases e
   ·split
    ·intro e;cases e
    ·intro _;rfl
 obtain⟨p,hp⟩:∃ p,IZ rt g=p:=⟨_,rfl⟩
 have hc:=SP S rt g A c;rw[hp] at h0 hc |-;refine V.enter _ Tryz.func20 (Mem.start (C:=Ao) w) ?_
 repeat (first | refine W ?_ | refine R.new fun _ _=>?_)
 refine R.c (fun w' h'=>hc w' (h.to fun b o v hb hv=>⟨h'.1.cell hv (fun e=>e),hb⟩) hsm (fun x hx=>⟨(hR x hx).1.to h'.1.below,fun y hy=>((hR x hx).2 y hy).to h'.1.below⟩) (fun w1 A1 c1 ks hb hk=>hD w1 A1 c1 ks (h'.1.below.trans (hb.mono h'.1.below.size)) hk)) ?_;by_cases he:p.2=0
 ·refine R.re 5 (v:=wrG p) (v':=.nilIface) (by unfold wrG;rw[if_pos he]) ?_;refine R.c (fun w' h'=>Ea.a_told0 w') ?_
  repeat refine W ?_
  refine V.end fun w' h'=>?_;exact⟨by rw[he,h0 he];rfl,h'.1.below⟩
 ·refine R.re 5 (v:=wrG p) (v':=.iface 118 (.agg #[I J p.1,I J p.2])) (by unfold wrG;rw[if_neg he];rfl) ?_;refine R.c (fun w' h'=>Ea.a_told p.1 p.2 w' (h'.1.cell hg fun e=>e)) ?_
  repeat refine W ?_
  refine V.end fun w' h'=>?_;exact⟨rfl,h'.1.below⟩
end
end Go.Proofs.YtdpppepmkeinaaaGreatDoor
