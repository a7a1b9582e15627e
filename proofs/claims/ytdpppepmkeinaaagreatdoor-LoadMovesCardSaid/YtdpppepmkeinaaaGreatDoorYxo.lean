/- What is proved: a part of the walk of the program and of its plain laws; no condition beside those that each theorem names. -/
import Derived.Test.YtdpppepmkeinaaaGreatDoorYxn
import Derived.Test.YtdpppepmkeinaaaGreatDoorYz
import Derived.Test.YtdpppepmkeinaaaGreatDoorYxh
import Derived.Test.YtdpppepmkeinaaaGreatDoorYxk
import Derived.Test.YtdpppepmkeinaaaGreatDoorYxl
import Derived.Test.YtdpppepmkeinaaaGreatDoorYxm
import Derived.Test.YtdpppepmkeinaaaGreatDoorYxa
import Derived.Test.YtdpppepmkeinaaaGreatDoorYv
import Derived.Test.YtdpppepmkeinaaaGreatDoorYxj
import Derived.Test.YtdpppepmkeinaaaGreatDoorYu
import Derived.Test.YtdpppepmkeinaaaGreatDoorYw
import Derived.Test.YtdpppepmkeinaaaGreatDoorYd
import Derived.Test.YtdpppepmkeinaaaGreatDoorYa
import Derived.Lib.AppendStr
import Derived.Lib.FrozenHead
namespace Go.Proofs.YtdpppepmkeinaaaGreatDoor
open Go Go.RowKit Go.Lib
open Go.Value renaming int->I,string->Q,slice->Z
open Go.IntKind renaming i64->J
open Option renaming none->O,some->F
open _root_.Go renaming World->Y
set_option linter.unusedSimpArgs false
set_option linter.unusedVariables false
set_option linter.unusedSectionVars false
section
set_option maxHeartbeats 32000000
set_option maxRecDepth 100000
def trz:TY:=(0,⟨#[]⟩,AJ,(O,0,0),(O,0,0))
def tcs:List Li->List Value
 | [_,(.iface _ (.agg a),_)]=>a.toList
 | [_,(.iface _ (.agg a),_),_]=>a.toList
 | _=>AM trz
def gcs:List Li->List Value
 | [_,_,(.iface _ (.agg a),_)]=>a.toList
 | _=>[I J 0,Z O 0 0]
def ecs:List Li->Value
 | [(_,e)]=>e
 | [_,(_,e)]=>e
 | [_,_,(_,e)]=>e
 | _=>.nilIface
def EK (m:Nat) (R1:List Sc×Int×Int) (R2:Tr×Int×Int) (R3:Gf×Int):Tr×Gf×Int×Int:=
 if R1.2.2≠0 then (Ei,G8,R1.2.1,R1.2.2) else if R2.2.2≠0 then (Ei,G8,R2.2.1,R2.2.2) else if m=2 then (R2.1,G8,0,0) else if R3.2≠0 then (Ei,G8,0,R3.2) else (R2.1,R3.1,0,0)
def itE (R1:List Sc×Int×Int) (R2:Tr×Int×Int) (R3:Gf×Int) (m:Nat):List Li->Prop
 | [x]=>R1.2.2≠0/\∃ q,x=JW R1 q
 | [_,x]=>R1.2.2=0/\R2.2.2≠0/\∃ y,x=QO R2 y
 | [_,_,x]=>m=3/\R1.2.2=0/\R2.2.2=0/\R3.2≠0/\∃ q,x=it3 R3 q
 | _=>False
theorem Ab0 {w w':Y} (h:Below w.heap.size w w'):Fr w w' [A9 (AM trz) Ei]:=⟨h,fun _=>False,by
 show D7 w' _ Ei _;unfold Ei D7 D7.TsV;exact⟨O,0,O,0,rfl,(fun j x hj=>by cases hj),trivial⟩,fun _ e=>e.elim,trivial⟩
theorem UX {w w':Y} (h:Below w.heap.size w w'):Fr w w' [KZ (Fx O 0 G8) G8]:=⟨h,fun _=>False,⟨O,0,rfl,fun j x hj=>by cases hj⟩,fun _ e=>e.elim,trivial⟩
theorem Xh (s:ByteArray) (R1:List Sc×Int×Int) (R2:Tr×Int×Int) (R3:Gf×Int) (fb m:Nat) (rest:List Value) (w:Y) (hP:ZZ w s R1 R2 R3) (hm:m=2/\rest=[]\/m=3/\rest=[f3V s]) (hf:Cs w fb 0 (f1V s::f2V s::rest)):
  Calls Tryz.prog 23 #[.agg #[Q s],Z (F ⟨fb,0,O⟩) m m] w fun e w'=>∃ x:TY×Option Addr×Nat,e=.returned (.tuple #[.agg (AM x.1).toArray,Fx x.2.1 x.2.2 (EK m R1 R2 R3).2.1,Eb (EK m R1 R2 R3).2.2.1 (EK m R1 R2 R3).2.2.2])∧
   Below w.heap.size w w'/\(m=2->Fr w w' [A9 (AM x.1) (EK m R1 R2 R3).1])/\(m=3->Fr w w' [KZ (Fx x.2.1 x.2.2 (EK m R1 R2 R3).2.1) (EK m R1 R2 R3).2.1]):=by
 refine V.enter _ Tryz.func23 (Mem.start (C:=A5) w) ?_;refine W ?_;refine R.new fun b2 h2=>?_;refine R.new fun b4 h4=>?_;refine R.new fun b5 h5=>?_;refine R.new fun b6 h6=>?_
 repeat refine W ?_
 refine R.cf (fun w' h'=>Zk s (F ⟨fb,0,O⟩) m m w') (fun sb=>?_);refine R.z ?_;refine V.range (Ajx w s R1 R2 R3 hP sb fb m rest hm hf) (fun xs=>[pr (itO R1 R2 R3 m xs),blk b4 (tcs xs) 53,blk b5 (gcs xs) 26,blk b6 [.nilIface] 61]) (fun co xs=>[pr (co=.ret/\itE R1 R2 R3 m xs),blk b4 (AM trz) 53,blk b5 [I J 0,Z O 0 0] 26,blk b6 [ecs xs] 61])
  (fun w h=>(h.pr (p:=itO R1 R2 R3 m []) trivial).sel) (fun w1 w2 G h hb hG=>⟨(h.1.trans (C':=A5) (B4.of_below hb) (fun _ _ e=>e)).below,fun b hb=>(hG b hb).elim id (fun e=>e.elim)⟩) (fun r pre x Wb C' T T' Rl hadm hx hC hmid=>?_) (fun D xs hfin=>?_) (fun D co xs=>?_)
 ·match pre,x,hadm with
  | [],_,⟨q,rfl⟩=>
   repeat refine W ?_
   refine V.mid hmid ?_;by_cases e:R1.2.2=0
   ·refine V.re 8 (MW e) ?_
    repeat refine W ?_
    exact V.pr (p:=itO R1 R2 R3 m ([]++[JW R1 q])) (by show itO R1 R2 R3 m [JW R1 q];exact⟨e,q,rfl⟩) V.rn
   ·refine V.re 8 (Ji e) ?_
    repeat refine W ?_
    refine V.pre (S':=Mem C' Wb [pr (itO R1 R2 R3 m []),blk b4 (AM trz) 53,blk b5 [I J 0,Z O 0 0] 26,blk b6 [Eb R1.2.1 R1.2.2] 61,T']) ?_ (fun w' h'=>by rw[Ji e];exact h'.sel);exact V.pr (p:=Code.ret=.ret/\itE R1 R2 R3 m ([]++[JW R1 q])) ⟨rfl,by show itE R1 R2 R3 m [JW R1 q];exact⟨e,q,rfl⟩⟩ V.rr
  | [_],_,⟨⟨q0,rfl⟩,e1,y,rfl⟩=>
   repeat refine W ?_
   refine V.mid hmid ?_;by_cases e:R2.2.2=0
   ·refine V.re 8 (MW e) ?_
    repeat (first | refine W ?_ | refine R.new fun b9 h9=>?_)
    exact V.pr (p:=itO R1 R2 R3 m ([JW R1 q0]++[QO R2 y])) ⟨⟨q0,rfl⟩,e1,e,y,rfl⟩ V.rn
   ·refine V.re 8 (Ji e) ?_
    repeat refine W ?_
    refine V.pre (S':=Mem C' Wb [pr (itO R1 R2 R3 m [JW R1 q0]),blk b4 (AM trz) 53,blk b5 [I J 0,Z O 0 0] 26,blk b6 [Eb R2.2.1 R2.2.2] 61,T']) ?_ (fun w' h'=>by rw[Ji e];exact h'.sel);exact V.pr (p:=Code.ret=.ret/\itE R1 R2 R3 m ([JW R1 q0]++[QO R2 y])) ⟨rfl,e1,e,y,rfl⟩ V.rr
  | [_,_],_,⟨⟨q0,rfl⟩,⟨y,rfl⟩,e0,e1,e2,q,rfl⟩=>
   repeat refine W ?_
   refine V.mid hmid ?_;by_cases e:R3.2=0
   ·refine V.re 8 (MW e) ?_
    repeat (first | refine W ?_ | refine R.new fun b9 h9=>?_)
    exact V.pr (p:=itO R1 R2 R3 m ([JW R1 q0,QO R2 y]++[it3 R3 q])) ⟨⟨q0,rfl⟩,⟨y,rfl⟩,e0,e1,e2,e,q,rfl⟩ V.rn
   ·refine V.re 8 (Ji e) ?_
    repeat refine W ?_
    refine V.pre (S':=Mem C' Wb [pr (itO R1 R2 R3 m [JW R1 q0,QO R2 y]),blk b4 (AM trz) 53,blk b5 [I J 0,Z O 0 0] 26,blk b6 [Eb 0 R3.2] 61,T']) ?_ (fun w' h'=>by rw[Ji e];exact h'.sel);exact V.pr (p:=Code.ret=.ret/\itE R1 R2 R3 m ([JW R1 q0,QO R2 y]++[it3 R3 q])) ⟨rfl,e0,e1,e2,e,q,rfl⟩ V.rr
  | _::_::_::_,_,hadm=>exact hadm.elim
 ·refine V.prop (p:=itO R1 R2 R3 m xs) (fun ho=>?_) (hp:=List.mem_append_right _ (List.Mem.tail _ (List.Mem.head _)))
  match xs,hfin,ho with
  | [],hf,_=>exact hf.elim
  | [_],hf,ho=>exact absurd ho.1 hf
  | [_,_],⟨_,hm2⟩,⟨⟨q0,rfl⟩,e1,e2,y,rfl⟩=>
   obtain rfl:m=2:=hm2.resolve_right fun h=>h e2;refine W ?_;refine Zz.on (Mem A5 w [blk b4 (AM y) 53,blk b5 [I J 0,Z O 0 0] 26]) ?_;iterate 5 refine Wy ?_
   refine Zz.off (fun w' h'=>h'.sel) ?_;refine R.z ?_;have hA:EK 2 R1 R2 R3=(R2.1,G8,0,0):=by unfold EK;rw[if_neg (fun h=>h e1),if_neg (fun h=>h e2),if_pos rfl]
   refine V.end (fun w' h'=>?_) (hv:=.agg rfl (by(repeat (first | exact List.Mem.head _ | apply List.Mem.tail))) (by intro w;kernel_rfl) (by intro w;simp;try rfl) (.agg rfl (by(repeat (first | exact List.Mem.head _ | apply List.Mem.tail))) (by intro w;kernel_rfl) (by intro w;simp;try rfl) (.one rfl (by(repeat (first | exact List.Mem.head _ | apply List.Mem.tail))) (by intro w;kernel_rfl) .nil)));rw[hA];exact⟨(y,O,0),rfl,h'.1.below,fun _=>(h'.sel:Mem A5 w [A9 (AM y) R2.1] w').to_fr,(fun h=>by cases h)⟩
  | [_,_,_],_,⟨⟨q0,rfl⟩,⟨y,rfl⟩,e0,e1,e2,e3,q,rfl⟩=>
   subst e0;refine W ?_;refine Zz.on (Mem A5 w [blk b4 (AM y) 53,blk b5 [I J R3.1.root,Z q.1 R3.1.nodes.length q.2] 26]) ?_;iterate 5 refine Wy ?_
   refine Zz.off (fun w' h'=>h'.sel) ?_;refine R.z ?_;have hA:EK 3 R1 R2 R3=(R2.1,R3.1,0,0):=by unfold EK;rw[if_neg (fun h=>h e1),if_neg (fun h=>h e2),if_neg (by decide),if_neg (fun h=>h e3)]
   refine V.end (fun w' h'=>?_) (hv:=.agg rfl (by(repeat (first | exact List.Mem.head _ | apply List.Mem.tail))) (by intro w;kernel_rfl) (by intro w;simp;try rfl) (.agg rfl (by(repeat (first | exact List.Mem.head _ | apply List.Mem.tail))) (by intro w;kernel_rfl) (by intro w;simp;try rfl) (.one rfl (by(repeat (first | exact List.Mem.head _ | apply List.Mem.tail))) (by intro w;kernel_rfl) .nil)));rw[hA];exact⟨(y,q.1,q.2),rfl,h'.1.below,(fun h=>by cases h),fun _=>(h'.sel:Mem A5 w [KZ (Fx q.1 q.2 R3.1) R3.1] w').to_fr⟩
  | _::_::_::_::_,hf,_=>exact hf.elim
 ·refine V.prop (p:=co=.ret/\itE R1 R2 R3 m xs) fun hp=>?_;obtain⟨rfl,hE⟩:=hp
  match xs,hE with
  | [],hE=>exact hE.elim
  | [_],⟨e,q,rfl⟩=>
   have hA:EK m R1 R2 R3=(Ei,G8,R1.2.1,R1.2.2):=by unfold EK;rw[if_pos e]
   refine V.end (fun w' h'=>?_) (hv:=.agg rfl (by(repeat (first | exact List.Mem.head _ | apply List.Mem.tail))) (by intro w;kernel_rfl) (by intro w;simp;try rfl) (.agg rfl (by(repeat (first | exact List.Mem.head _ | apply List.Mem.tail))) (by intro w;kernel_rfl) (by intro w;simp;try rfl) (.one rfl (by(repeat (first | exact List.Mem.head _ | apply List.Mem.tail))) (by intro w;kernel_rfl) .nil)));rw[hA];exact⟨(trz,O,0),rfl,h'.1.below,fun _=>Ab0 h'.1.below,fun _=>UX h'.1.below⟩
  | [_,_],⟨e1,e,y,rfl⟩=>
   have hA:EK m R1 R2 R3=(Ei,G8,R2.2.1,R2.2.2):=by unfold EK;rw[if_neg (fun h=>h e1),if_pos e]
   refine V.end (fun w' h'=>?_) (hv:=.agg rfl (by(repeat (first | exact List.Mem.head _ | apply List.Mem.tail))) (by intro w;kernel_rfl) (by intro w;simp;try rfl) (.agg rfl (by(repeat (first | exact List.Mem.head _ | apply List.Mem.tail))) (by intro w;kernel_rfl) (by intro w;simp;try rfl) (.one rfl (by(repeat (first | exact List.Mem.head _ | apply List.Mem.tail))) (by intro w;kernel_rfl) .nil)));rw[hA];exact⟨(trz,O,0),rfl,h'.1.below,fun _=>Ab0 h'.1.below,fun _=>UX h'.1.below⟩
  | [_,_,_],⟨e0,e1,e2,e,q,rfl⟩=>
   subst e0;have hA:EK 3 R1 R2 R3=(Ei,G8,0,R3.2):=by unfold EK;rw[if_neg (fun h=>h e1),if_neg (fun h=>h e2),if_neg (by decide),if_pos e]
   refine V.end (fun w' h'=>?_) (hv:=.agg rfl (by(repeat (first | exact List.Mem.head _ | apply List.Mem.tail))) (by intro w;kernel_rfl) (by intro w;simp;try rfl) (.agg rfl (by(repeat (first | exact List.Mem.head _ | apply List.Mem.tail))) (by intro w;kernel_rfl) (by intro w;simp;try rfl) (.one rfl (by(repeat (first | exact List.Mem.head _ | apply List.Mem.tail))) (by intro w;kernel_rfl) .nil)));rw[hA];exact⟨(trz,O,0),rfl,h'.1.below,(fun h=>by cases h),fun _=>UX h'.1.below⟩
  | _::_::_::_::_,hE=>exact hE.elim
end
section

end
section

end
section
def AD:Tr->Int->St->Int:=BY A4 (fun nm=>CG nm.data.toList)
end
section
set_option maxHeartbeats 8000000
set_option maxRecDepth 100000
def EJ (s:List UInt8):Tr×Int×Int:=AZ 100000 ((Ao s).1.map BM)
def IX (s:List UInt8):Gf×Int:=Al AD (EJ s).1
theorem Ahq {w:Y} (h:FP w) (s:ByteArray):ZZ w s (Ao s.data.toList) (EJ s.data.toList) (IX s.data.toList) where
 l made w' hb:=VI s made w' (h.to hb)
 t S A c w' hb hk:=XR s s.data.toList S A c w' hk (h.to hb)
 g y w' hb ht:=by
  obtain⟨p,hp⟩:=(h.to hb).errS;have hz:Fo 40000 (EJ s.data.toList).1:=Qu 100000 s.data.toList;have hm:Sm 1000000 (EJ s.data.toList).1:=Q8 fun es he=>by have:=FX es he;omega
  exact(W8 A4 nbP (EJ s.data.toList).1 p s w' (AM y) ht ((h.to hb).tree _ hz hm) (Rh _ _) (h.to hb).errC hp (fun w2 hb2=>⟨D7.to (fun b o v hlt hv=>⟨cell_below hv hb2,Nat.lt_of_lt_of_le hlt hb2.size⟩) _ _ ht,((h.to hb).to hb2).tree _ hz hm,Rh _ _⟩)).mono fun e w1 ⟨v,he,hf⟩=>by
   obtain⟨_,Fz,⟨A,c,rfl,_⟩,_⟩:=id hf;exact⟨(A,c),he,hf⟩
theorem R5 {chk:Tr->Int->St->Int} {t:Tr} (h:(Al chk t).2≠0):(Al chk t).1=G8:=by
 unfold Al at h |-;split
 ·rename_i h1;rw[if_pos h1] at h;exact absurd rfl h
 ·rfl
theorem Y9 (s:List UInt8):(EK 3 (Ao s) (EJ s) (IX s)).2=Aq AD 100000 s/\((Aq AD 100000 s).2.2=0->(Aq AD 100000 s).2.1=0):=by
 by_cases h1:(Ao s).2.2=0
 ·have ht:A3 100000 s=EJ s:=by unfold A3;exact if_neg (fun h=>h h1)
  have hl:Aq AD 100000 s=if (EJ s).2.2≠0 then (G8,(EJ s).2.1,(EJ s).2.2) else ((IX s).1,0,(IX s).2):=by unfold Aq;rw[ht];rfl
  have ha:EK 3 (Ao s) (EJ s) (IX s)=if (EJ s).2.2≠0 then (Ei,G8,(EJ s).2.1,(EJ s).2.2) else if 3=2 then ((EJ s).1,G8,0,0) else if (IX s).2≠0 then (Ei,G8,0,(IX s).2) else ((EJ s).1,(IX s).1,0,0):=by unfold EK;exact if_neg (fun h=>h h1)
  rw[ha,hl];by_cases h2:(EJ s).2.2=0
  ·by_cases h3:(IX s).2=0
   ·simp[h2,h3]
   ·simp[h2,h3,show(IX s).1=G8 from R5 h3]
  ·simp[h2]
 ·have ht:A3 100000 s=(Ei,(Ao s).2.1,(Ao s).2.2):=by unfold A3;exact if_pos h1
  have hl:Aq AD 100000 s=(G8,(Ao s).2.1,(Ao s).2.2):=by unfold Aq;rw[ht];exact if_pos h1
  have ha:EK 3 (Ao s) (EJ s) (IX s)=(Ei,G8,(Ao s).2.1,(Ao s).2.2):=by unfold EK;exact if_pos h1
  rw[ha,hl];exact⟨rfl,fun h=>absurd h h1⟩
theorem Ahh (no e:Int) (w:Y) (hg:Ea.ErrC w) (h0:e=0->no=0):Calls Tryz.prog 27 #[Eb no e] w fun ev w'=>ev=.returned (.tuple #[I J no,I J e])/\Below w.heap.size w w':=by
 by_cases he:e=0
 ·rw[MW he,he,h0 he];exact Ea.l_told0 w
 ·rw[Ji he];exact Ea.l_told no e w hg
theorem C2 (s:ByteArray) (w:Y) (hW:FP w):
  Calls Tryz.prog 13 #[Q s] w fun e w'=>∃ q:Option Addr×Nat,e=.returned (.tuple #[Fx q.1 q.2 (Aq AD 100000 s.data.toList).1,I J (Aq AD 100000 s.data.toList).2.1,I J (Aq AD 100000 s.data.toList).2.2])/\Fr w w' [KZ (Fx q.1 q.2 (Aq AD 100000 s.data.toList).1) (Aq AD 100000 s.data.toList).1]:=by
 have hA:=fun fb w' (h:FP w') hf=>Xh s _ _ _ fb 3 [f3V s] w' (Ahq h s) (.inr ⟨rfl,rfl⟩) hf;obtain⟨h1,h0⟩:=Y9 s.data.toList;rw[h1] at hA;obtain⟨L,hL⟩:∃ x,Aq AD 100000 s.data.toList=x:=⟨_,rfl⟩
 rw[hL] at hA h0 |-;clear h1 hL;refine V.enter _ Tryz.func13 (Mem.start (C:=A5) w) ?_;refine W ?_;refine R.new fun b2 h2=>?_
 repeat refine W ?_
 refine R.new fun b5 h5=>?_
 repeat refine W ?_
 refine R.bs (m:=3) (fun fb hfb=>?_);refine R.cf (ι:=TY×Option Addr×Nat) (v:=fun x=>.tuple #[.agg (AM x.1).toArray,Fx x.2.1 x.2.2 L.1,Eb L.2.1 L.2.2]) (X:=fun x=>[KZ (Fx x.2.1 x.2.2 L.1) L.1]) (fun w' h'=>(hA fb w' (hW.to h'.1.below) (Cs.of_blk (h'.blk (List.Mem.head _)))).mono fun e w1 ⟨x,he,_,_,hf⟩=>⟨x,he,hf rfl⟩) (fun x=>?_)
 repeat (first | refine W ?_ | refine R.new fun _ _=>?_)
 refine R.c (fun w' h'=>Ahh L.2.1 L.2.2 w' (hW.to h'.1.below).errC h0) ?_
 repeat refine W ?_
 refine V.end (fun w' h'=>?_) (hv:=.agg rfl (by(repeat (first | exact List.Mem.head _ | apply List.Mem.tail))) (by intro w;kernel_rfl) (by intro w;simp;try rfl) (.tmp rfl (.tmp rfl .nil)));exact⟨x.2,rfl,(h'.sel:Mem A5 w [KZ _ _] w').to_fr⟩
end
section
open Go Go.Lib
def X8 (l:List Int):List UInt8:=l.flatMap fun n=>itoa n++[44]
abbrev Say:=Int×Sc×List UInt8×List UInt8
def Ac3 (tx:Sc->List UInt8) (c:List Int) (x:Nd):Say:=(x.kind,x.x,(Et x).flatMap fun k=>tx k++[44],X8 ((Fk x).map fun k=>c.getD k.toNat 0))
def Fu (tx:Sc->List UInt8) (ns:List Nd) (c:List Int):List Say:=ns.map (Ac3 tx c)
def J2 (tx:Sc->List UInt8) (ns:List Nd) (c:List Int):List Int:=Ls (Fu tx ns c) []
def UJ (tx:Sc->List UInt8) (ns:List Nd) (c:List Int):Nat:=(Fy (Fu tx ns c) []).length
def VL (tx:Sc->List UInt8) (ns:List Nd):Nat->Nat->Nat->List Int->List Int
 | 0,_,_,c=>c
 | f+1,n,more,c=>if n<more then VL tx ns f more (UJ tx ns c) (J2 tx ns c) else c
def QC (n:Nat):List Int:=List.replicate n 0
def Tq (tx:Sc->List UInt8) (ns:List Nd):List Int:=VL tx ns (ns.length+1) 0 (UJ tx ns (QC ns.length)) (J2 tx ns (QC ns.length))
def cls (tx:Sc->List UInt8) (ns:List Nd):Nat->List Int
 | 0=>QC ns.length
 | k+1=>J2 tx ns (cls tx ns k)
section
variable {tx:Sc->List UInt8} {ns:List Nd}
def Mi (n:Nat) (x:Nd):Nd:=⟨x.kind,x.x,x.keys,x.kids.map (·+(n:Int))⟩
def Ge (a b:List Nd):List Nd:=a++b.map (Mi a.length)
def Ae6 (tx:Sc->List UInt8) (g h:Gf):Bool:=decide ((Tq tx (Ge g.nodes h.nodes)).getD g.root.toNat 0=(Tq tx (Ge g.nodes h.nodes)).getD (h.root.toNat+g.nodes.length) 0)
end
end
section
set_option maxRecDepth 100000
def Ul:Sc:=⟨2,1,⟨#[]⟩⟩
def txP (x:Sc):List UInt8:=(Fw x).1.data.toList
def Akf:ByteArray:=⟨#[38,97,10,45,32,42,97,10,45,32,49,10]⟩
def Zl:ByteArray:=⟨#[107,58,32,42,120]⟩
def Ak1:ByteArray:=⟨#[97,10,9,98]⟩
def Ai7:ByteArray:=⟨#[123,97,58,32,49,44,32,98,58,32,91,49,93,125]⟩
def Ahu:ByteArray:=⟨#[34,98,34,58,10,32,32,45,32,49,10,97,58,32,49,32,35,32,120,10]⟩
def Rb (c:UInt8):Sc:=⟨3,0,⟨#[c]⟩⟩
def g1:Gf:=⟨0,[⟨1,AJ,[],[0,1]⟩,⟨0,Ul,[],[]⟩]⟩
def g4:Gf:=⟨0,[⟨2,AJ,[Rb 97,Rb 98],[1,2]⟩,⟨0,Ul,[],[]⟩,⟨1,AJ,[],[3]⟩,⟨0,Ul,[],[]⟩]⟩
def g5:Gf:=⟨0,[⟨2,AJ,[Rb 98,Rb 97],[1,3]⟩,⟨1,AJ,[],[2]⟩,⟨0,Ul,[],[]⟩,⟨0,Ul,[],[]⟩]⟩
theorem Ak4:Aq AD 100000 Akf.data.toList=(g1,0,0):=by kernel_rfl
theorem X0:(A3 100000 Zl.data.toList).1.kind=2/\(A3 100000 Zl.data.toList).2=(0,0)/\Aq AD 100000 Zl.data.toList=(G8,0,100):=⟨by kernel_rfl,by kernel_rfl,by kernel_rfl⟩
theorem Akn:Aq AD 100000 Ak1.data.toList=(G8,2,80):=by kernel_rfl
theorem Aaa:Aq AD 100000 Ai7.data.toList=(g4,0,0):=by kernel_rfl
theorem Ack:Aq AD 100000 Ahu.data.toList=(g5,0,0):=by kernel_rfl
theorem Ad3:Ae6 txP g4 g5=true:=by kernel_rfl
theorem Alh:LY A4 g4=(0,0)/\LY A4 g5=(0,0):=⟨by kernel_rfl,by kernel_rfl⟩
end
section
section
variable {κ:Type} [DecidableEq κ] {P:Program} {enc:κ->Value}
theorem Nz {k:TypeId} (hE:∀ x y w,(Op.equal k (enc x) (enc y)).run P w=.ok (decide (x=y)) w) (x:κ) (w:Y):∀ (m:List (κ×Value)) (es:List MapEntry) (i:Nat),Jz enc m es→
  (Instr.findAsking k (enc x) es i).run P w=.ok ((EF x m).bind fun j=>(es[j]?).map fun e=>(i+j,e.val)) w
 | [],es,i,h=>by
  have:es=[]:=by simpa[Jz] using h
  subst this;simp[Instr.findAsking,EF]
 | (y,u)::r,[],i,h=>by cases h
 | (y,u)::r,e0::es,i,h=>by
  unfold Jz at h;simp only[List.map_cons,List.cons.injEq,Prod.mk.injEq] at h;obtain⟨⟨h1,h2⟩,h3⟩:=h;have ih:=Nz hE x w r es (i+1) h3;unfold Instr.findAsking EF;rw[h1];simp only[Sem.run_bind,hE,Result.andThen_ok]
  by_cases e:x=y
  ·subst e;simp[pure,Sem.run]
  ·have e':¬y=x:=fun h=>e h.symm;rw[if_neg e'];simp only[e,decide_false,Bool.false_eq_true,if_false]
   rw[ih];cases EF x r with
   | none=>rfl
   | some j=>simp[Nat.add_assoc,Nat.add_comm 1 j]
theorem L2.asks {k:TypeId} {dk:TypeDesc} (hd:P.underlying k=F dk) (hn:∀ u v,Instr.sameNow dk u v=O) (hC:∀ em x w,(Instr.checkKey em 10000 k (enc x)).run P w=.ok () w) (hE:∀ x y w,(Op.equal k (enc x) (enc y)).run P w=.ok (decide (x=y)) w) (hs:∀ x,Instr.sameBits 10000 (enc x) (enc x)=true):L2 P k enc where
 check:=hC
 same:=hs
 find x m es w hm:=by
  have h1:(Instr.findKey k (enc x) es).run P w=(Instr.findAsking k (enc x) es).run P w:=by
   unfold Instr.findKey;simp only[Sem.run_bind,run_underlying hd,Result.andThen_ok]
   cases es with
   | nil=>rfl
   | cons e0 es=>simp[Instr.findNow,hn]
  rw[h1,Nz hE x w m es 0 hm];cases EF x m with
  | none=>rfl
  | some j=>simp
end
end
section
structure ElB (P:Program) (tt u e:TypeId):Prop where
 und:P.underlying tt=F (.slice e)
 str:P.underlying u=F .string
 info:(P.info? e).map (fun i=>(i.zero,i.size,i.bytes))=F (F (.int .u8 0),1,1)
theorem Agg {P:Program} (w:Y) (tt u ty e:TypeId) (hE:ElB P tt u e) (v:Value) (n:Nat) (xs:List Value) (hown:w.ownsRow 0 e 1 v n xs) (s:ByteArray) (h1:n+s.size<=1000000):
  ∃ v' w',(Builtin.append_ #[tt,u] ty #[v,Q s]).run P w=.ok v' w'/\w'.ownsRow 0 e 1 v' (n+s.size) (xs++strCells s)/\w.grownBy w' v.ownBlock/\(v'.ownBlock=v.ownBlock\/v'.ownBlock=F w.heap.size):=by
 obtain⟨i,hi,hz,hsz,hby⟩:∃ i,P.info? e=F i/\i.zero=F (.int .u8 0)/\i.size=1/\i.bytes=1:=by
  have:=hE.info;cases hi:P.info? e with
  | none=>rw[hi] at this;cases this
  | some i=>
   rw[hi] at this;simp only[Option.map_some,Option.some.injEq,Prod.mk.injEq] at this;exact⟨i,rfl,this.1,this.2.1,this.2.2⟩
 have hmax:n+s.size<=maxLen:=by unfold maxLen;omega
 obtain⟨v',w',hr,ho,hg,hn⟩:=run_append_own_string (P:=P) w 0 tt u ty e i hE.und hE.str hi hz hsz hby v n xs hown s hmax (by omega) (Nat.zero_le _);refine⟨v',w',hr,ho,hg,?_⟩;rcases hown.2 with ⟨rfl,rfl⟩ | ⟨g,cap,cur,rfl,hbg,hgg,hnc,hcm,hcs,htake⟩
 ·by_cases hs0:s.size=0
  ·rw[hn.2 ⟨rfl,hs0⟩];exact .inl rfl
  ·have hr2:=run_append_nil_string (P:=P) w tt u ty e i (.int .u8 0) hE.und hE.str hi hz s (by omega) (by omega) (by rw[hby];omega);rw[hr] at hr2;injection hr2 with e1 e2;rw[e1];exact .inr rfl
 ·have hcs':cur.size=cap:=by simpa using hcs
  by_cases hroom:n+s.size<=cap
  ·have hr2:=run_append_room_string (P:=P) w tt u ty e i hE.und hE.str hi hsz g n cap cur hgg s hroom (by omega);rw[hr] at hr2;injection hr2 with e1 e2;rw[e1];exact .inl rfl
  ·have hxl:xs.length=n:=by simpa using hown.1
   have holds:∀ j u,xs[j]? =F u->w.cell? ((⟨g,0,O⟩:Addr).add j)=F u:=World.ownsRow.cells hown (g:=g) rfl;have hr2:=run_append_grow_string (P:=P) w tt u ty e i (.int .u8 0) hE.und hE.str hi hz ⟨g,0,O⟩ n cap xs (by rw[hsz];simpa using hxl) holds s (by omega) (by omega) (by rw[hby];exact growslice_fits (by omega) (by omega));rw[hr] at hr2;injection hr2 with e1 e2;rw[e1];exact .inr rfl
section
variable {P:Program} {Fz:Fence} {Qr:Exit->Act->Y->Prop} {n:Nat} {ds:List Deferred} {d:Bool} {ops:Array Oper} {K:Act->Y->Prop} {i:Nat} {pl pend pend':List Nat} {l l':Env}
 {t:Nat} {ty:TypeId} {ps:String} {af:Array Edge} {gd:Option (Nat×Bool)} {C:Nat->Prop} {w0:Y} {A:List Aw}
theorem R.apps {s x:Operand} {tt u e:TypeId} {k:Nat} {v:Value} {xs:List Value} {str:ByteArray} {A':Value->List Aw} (hE:ElB P tt u e) (hnm:k+str.size<=1000000)
  (h:∀ a c,Rj P n ds d ops K pl pend' (Mem C w0 (A' (Z a (k+str.size) c))) ((t,Z a (k+str.size) c)::l))
  (ho:AQ ops.toList i=F ⟨F t,.call {callee:=.builtin .append,args:=#[s,x],argTypes:=#[tt,u]},ty,ps,af,gd⟩:=by rfl) (hs:ev l s=F v:=by rfl) (hx:ev l x=F (Q str):=by rfl)
  (hr:∀ v',E5 (An e 1 v k xs) (An e 1 v' (k+str.size) (xs++strCells str)) A (A' v'):=by intro v';(repeat (first | exact E5.hd | apply E5.tl));first | done | fail)
  (hp:Wq (ι:=Option Addr×Nat) d ops i pend pend' (fun y=>Mem C w0 (A' (Z y.1 (k+str.size) y.2))) (Mem C w0 A):=by first | exact .inl ⟨rfl,rfl⟩ | exact .inr (.inl ⟨rfl,rfl⟩)) (hg:D0 ops.toList l gd=F true:=by rfl):Rj P n ds d ops K (i::pl) pend (Mem C w0 A) l:=
 R.eff (ι:=Option Addr×Nat) (Si:=fun y=>Mem C w0 (A' (Z y.1 (k+str.size) y.2))) (li:=fun y=>(t,Z y.1 (k+str.size) y.2)::l) ho hg rfl (fun a w K' ha hd hw hk=>by
  obtain⟨G,⟨g1,g2⟩,g3,_⟩:=hw.rep (hr v);obtain⟨v',w',hrun,k1,k2,k4⟩:=Agg (P:=P) w tt u ty e hE v k xs g1 str hnm;obtain⟨G2,⟨_,i2⟩,i3,i4⟩:=hw.rep (hr v');obtain⟨a',c',hv'⟩:∃ a' c',v'=Z a' (k+str.size) c':=by
   rcases k1.2 with ⟨e1,e2⟩ | ⟨g,cap,cur,e1,_⟩
   ·exact⟨O,0,by rw[e1,e2]⟩
   ·exact⟨_,cap,e1⟩
  subst hv';have hm:Mem C w0 (A' (Z a' (k+str.size) c')) w':=by
   refine i4 (fun b=>(Value.slice a' (k+str.size) c').ownBlock=F b) w' ⟨k1,fun b hb=>hb⟩ ⟨k2.os,k2.tape,k2.output,k2.size,fun b hb hn=>k2.block b hb (fun e=>hn (i2 b e.symm))⟩ (fun b hb=>⟨?_,?_⟩)
   ·rcases k1.2 with ⟨e1,_⟩ | ⟨g,cap,cur,e1,_,hg,_⟩
    ·rw[e1] at hb;cases hb
    ·rw[e1] at hb;cases hb;exact(Gl hg)
   ·rcases k4 with k4 | k4
    ·exact .inl (i2 b (k4.symm.trans hb))
    ·rw[k4] at hb;cases hb;exact .inr Nr
  unfold FI;have:(execOp a.eval ⟨F t,.call {callee:=.builtin .append,args:=#[s,x],argTypes:=#[tt,u]},ty,ps,af,gd⟩).run P w=.ok (.value (Z a' (k+str.size) c')) w':=by
   simp[execOp,resolve,invoke,builtin,Sem.run_bind,pure,ha.ev hs,ha.ev hx,hrun]
  rw[this];exact hk (a',c') _ _ hm (hd _)) hp (fun y=>h y.1 y.2)
end
end
section
set_option maxRecDepth 100000
def bdP (b:Nat) (u:Bool):Value:=bif u then .pointer (F ⟨b,0,O⟩) else .pointer O
def bdB (b:Nat) (acc:List UInt8) (q:Bool×Value):List Aw:=[blk b [bdP b q.1,q.2] TB,An T8 1 q.2 acc.length (Lib.byteCells acc)]
def O8 (b:Nat) (acc:List UInt8):Aw:=JB fun q:Bool×Value=>star (bdB b acc q)
theorem Sg {C:Nat->Prop} {w0 w:Y} {A Z0:List Aw} {b:Nat} {acc:List UInt8} (h:Mem C w0 A w) (hk:Pk (O8 b acc) A Z0):∃ q,Mem C w0 (bdB b acc q++Z0) w:=let ⟨q,hq⟩:=(h.pk hk).ex;⟨q,hq.star⟩
theorem OV {C:Nat->Prop} {w0 w:Y} {Z0:List Aw} {b:Nat} {acc:List UInt8} (q:Bool×Value) (h:Mem C w0 (bdB b acc q++Z0) w):Mem C w0 (O8 b acc::Z0) w:=Mem.toEx (f:=fun q=>star (bdB b acc q)) q (Mem.toStar (B:=bdB b acc q) h)
theorem X6 {C:Nat->Prop} {w0 w:Y} {Z0:List Aw} {b:Nat} (h:Mem C w0 (blk b [.pointer O,Z O 0 0] TB::Z0) w):Mem C w0 (O8 b []::Z0) w:=OV (false,Z O 0 0) ((h.ownNil T8 1).sel (.cons (.tl .hd) (.cons .hd (PK.refl _))))
theorem elB:ElB Tryz.prog 71 9 T8:=⟨by kernel_rfl,by kernel_rfl,by kernel_rfl⟩
theorem Ah8 (b:Nat) (u:Bool) (v:Value) (w:Y):Ex Tryz.prog 54 #[.pointer (F ⟨b,0,O⟩)] w (blk b [bdP b u,v] TB) (fun _:Unit=>.tuple #[]) (fun _=>blk b [bdP b true,v] TB):=Ex.blk (cs':=fun _:Unit=>[bdP b true,v]) fun hb=>by
 have c0:w.cell? ⟨b,0,O⟩=F (bdP b u):=by simp[World.cell?,hb]
 cases u with
 | true=>
  refine(Ic b w c0).mono ?_;rintro e w' ⟨rfl,rfl⟩;exact⟨(),rfl,B4.refl _ _,hb⟩
 | false=>
  refine(Hz b w c0 (by simp[World.shape?,hb]) (by simp[World.frozen?,hb])).mono ?_;rintro e w' ⟨rfl,rfl⟩;exact⟨(),rfl,⟨rfl,rfl,rfl,by simp[World.setCell],fun k _ hk=>Bh _ _ _ _ hk⟩,by simp[World.setCell,Array.getElem?_modify,hb];rfl⟩
theorem Aat (b:Nat) (acc:List UInt8) (s:ByteArray) (w:Y) (hn:acc.length+s.size<=1000000):
  Ex Tryz.prog 236 #[.pointer (F ⟨b,0,O⟩),Q s] w (O8 b acc) (fun _:Unit=>.tuple #[I J s.size,.nilIface]) (fun _=>O8 b (acc++s.data.toList)):=by
 intro Fz hX hF;refine V.enter _ Tryz.func236 (Mem.startX hX hF) ?_;refine V.any (fun w' h'=>Sg h' Pk.hd) (fun q=>?_);obtain⟨u,v⟩:=q;show V _ _ _ _ _ _ (Mem Fz w [blk b [bdP b u,v] TB,An T8 1 v acc.length (Lib.byteCells acc)]) _;refine V.know (p:=∃ LA lc,v=Z LA acc.length lc) (fun w' h'=>(Co h' (List.Mem.tail _ (List.Mem.head _))).elim (fun⟨e,e0⟩=>⟨O,0,by rw[e,e0]⟩) (fun⟨g,c,e⟩=>⟨_,c,e⟩)) fun hv=>?_;obtain⟨LA,lc,rfl⟩:=hv
 repeat refine W ?_
 refine R.cw (fun w' h'=>Ah8 b u _ w') (fun _=>?_);iterate 2 refine W ?_
 repeat refine W ?_
 refine R.apps elB hn (fun a c=>?_)
 repeat refine W ?_
 refine V.end fun w' h'=>?_;refine⟨(),rfl,Mem.toW (OV (true,Z a (acc.length+s.size) c) ?_)⟩;have e:Lib.byteCells acc++Lib.strCells s=Lib.byteCells (acc++s.data.toList):=by simp[Lib.byteCells,Lib.strCells]
 rw[e,show acc.length+s.size=(acc++s.data.toList).length by rw[List.length_append,Array.length_toList];rfl] at h';rw[show acc.length+s.size=(acc++s.data.toList).length by rw[List.length_append,Array.length_toList];rfl];exact h'.sel
theorem Aa4 {w0 w:Y} {A Z0:List Aw} {b:Nat} {acc:List UInt8} (h:Mem A5 w0 A w) (hk:Pk (O8 b acc) A Z0):
  Calls Tryz.prog 38 #[.pointer (F ⟨b,0,O⟩)] w fun e w'=>e=.returned (Q ⟨acc.toArray⟩)/\Mem A5 w0 [] w':=by
 obtain⟨⟨u,v⟩,hq⟩:=Sg h hk;obtain⟨hx,F1,⟨a1,a2⟩,a3,F2,⟨b1,b2⟩,b3,_⟩:=hq;have hne:v.ownBlock≠F b:=fun e=>(b3 b (b2 b e)).2 a1;have hge:∀ k,F1 k\/F2 k->w0.heap.size<=k:=fun k hk=>hk.elim (fun h=>(a3 k h).2.elim id (fun e=>e.elim)) (fun h=>(b3 k h).1.2.elim id (fun e=>e.elim));have hown:w.ownsRow w0.heap.size T8 1 v acc.length (Lib.byteCells acc):=by
  refine⟨b1.1,b1.2.imp id ?_⟩;rintro⟨g,cap,cur,rfl,_,r⟩;exact⟨g,cap,cur,rfl,hge g (.inr (b2 g rfl)),r⟩
 have hl:(Lib.byteCells acc).length=acc.length:=by simp[Lib.byteCells]
 have hI:Lib.IsBuilderF TB T8 w0.heap.size b (Lib.byteCells acc) w:=by
  have hB:∀ p,w.heap[b]? =F (.cells #[p,v] TB (0,0))->Lib.BuilderAtF TB T8 w0.heap.size b p (Lib.byteCells acc) w:=fun p hp=>Lib.BuilderAtF.of ⟨hge b (.inl a1),v,hp,by rw[hl];exact hown,hne⟩;cases u with
  | true=>exact .inr (hB _ a2)
  | false=>exact .inl (hB _ a2)
 refine(Tryz.Builder_String_any_k w0.heap.size b acc w hI hx.size).mono ?_;rintro e w' ⟨rfl,_,hb,_⟩;exact⟨rfl,B4.of_below (hx.below.trans hb),trivial⟩
end
section
set_option maxRecDepth 100000
deriving instance DecidableEq for Nd
deriving instance DecidableEq for Gf
theorem Ame (x y:Sc) (w:Y):(binOp .neq 36 (Ev x) (Ev y)).run Tryz.prog w=.ok (.bool (!decide (x=y))) w:=by
 have:=ZV x y w;have e1:binOp .eql 36 (Ev x) (Ev y)=(do let r <- Op.equal 36 (Ev x) (Ev y);pure (Value.bool r)):=rfl;have e2:binOp .neq 36 (Ev x) (Ev y)=(do let r <- Op.equal 36 (Ev x) (Ev y);pure (Value.bool !r)):=rfl;rw[e1,Sem.run_bind] at this;rw[e2,Sem.run_bind];cases hq:(Op.equal 36 (Ev x) (Ev y)).run Tryz.prog w<;>rw[hq] at this<;>simp_all [Result.andThen,pure,Sem.run]
theorem Wk {α:Type} {k:Nat} {l m:List α} (hl:l.length=m.length) (hk:l.length<=k) (h:∀ j,j<k->l[j]? =m[j]?):l=m:=by
 apply List.ext_getElem? fun j=>?_;by_cases hj:j<k
 ·exact h j hj
 ·rw[List.getElem?_eq_none (by omega),List.getElem?_eq_none (by omega)]
theorem Z9 (S S2:Nat->Prop) (A B:Option Addr) (c c2:Nat) (ks ls:List Sc) (w:Y) (h:GZ w S A ks) (h2:GZ w S2 B ls) (hn:ks.length<=1000000):
  Calls Tryz.prog 29 #[Z A ks.length c,Z B ls.length c2] w fun e w'=>e=.returned (.bool (decide (ks=ls)))/\Below w.heap.size w w':=by
 refine V.enter _ Tryz.func29 (Mem.start (C:=A5) w) ?_
 repeat refine W ?_
 refine V.if (fun he=>?_) (fun he=>?_)
 ·repeat refine W ?_
  refine V.end fun w' h'=>?_;have:ks≠ls:=fun e=>by subst e;simp at he
  exact⟨by simp[one,this],h'.1.below⟩
 ·have hl:ks.length=ls.length:=by simp at he;omega
  repeat refine W ?_
  refine V.loop (fun k=>k<=ks.length/\∀ j,j<k->ks[j]? =ls[j]?) (fun _=>Mem A5 w []) (fun k=>[(13,I J k),(12,I J ks.length),(0,Z A ks.length c),(1,Z B ls.length c2)]) (ks.length - ·) 0 ⟨by omega,fun j hj=>by omega⟩ (fun w h=>h) ⟨rfl,rfl,rfl,rfl,trivial⟩ ?_;rintro k ⟨hk,hne⟩
  repeat refine W ?_
  refine V.ifp (fun hlt=>?_) (fun hge=>?_)
  ·have hlt:k<ks.length:=by omega
   obtain⟨x,hx⟩:∃ x,ks[k]? =F x:=⟨_,List.getElem?_eq_getElem hlt⟩
   obtain⟨y,hy⟩:∃ y,ls[k]? =F y:=⟨_,List.getElem?_eq_getElem (by omega)⟩
   obtain⟨b,o,rfl,_,hc⟩:=h k x hx;obtain⟨b2,o2,rfl,_,hc2⟩:=h2 k y hy
   repeat refine W ?_
   refine R.ix hlt ?_;refine R.lo 0 hc ?_
   repeat refine W ?_
   refine R.ix (show k<ls.length by omega) ?_;refine R.lo 0 hc2 ?_;refine R.bin (Ame x y) ?_
   repeat refine W ?_
   refine V.if (fun he=>?_) (fun he=>?_)
   ·repeat refine W ?_
    refine V.end fun w' h'=>?_;have:ks≠ls:=fun e=>by subst e;rw[hx] at hy;cases hy;simp at he
    exact⟨by simp[one,this],h'.1.below⟩
   ·repeat refine W ?_
    exact V.again (k+1) rfl ⟨hlt,fun j hj=>by
     by_cases e:j=k
     ·subst e;rw[hx,hy];simp at he;rw[he]
     ·exact hne j (by omega)⟩
  ·repeat refine W ?_
   refine V.end fun w' h'=>?_;have:ks=ls:=Wk hl (k:=k) (by omega) hne;exact⟨by simp[one,this],h'.1.below⟩
theorem Afw (S S2:Nat->Prop) (A B:Option Addr) (c c2:Nat) (ks ls:List Int) (w:Y) (h:Ja w S A ks) (h2:Ja w S2 B ls) (hn:ks.length<=1000000):
  Calls Tryz.prog 30 #[Z A ks.length c,Z B ls.length c2] w fun e w'=>e=.returned (.bool (decide (ks=ls)))/\Below w.heap.size w w':=by
 refine V.enter _ Tryz.func30 (Mem.start (C:=A5) w) ?_
 repeat refine W ?_
 refine V.if (fun he=>?_) (fun he=>?_)
 ·repeat refine W ?_
  refine V.end fun w' h'=>?_;have:ks≠ls:=fun e=>by subst e;simp at he
  exact⟨by simp[one,this],h'.1.below⟩
 ·have hl:ks.length=ls.length:=by simp at he;omega
  repeat refine W ?_
  refine V.loop (fun k=>k<=ks.length/\∀ j,j<k->ks[j]? =ls[j]?) (fun _=>Mem A5 w []) (fun k=>[(13,I J k),(12,I J ks.length),(0,Z A ks.length c),(1,Z B ls.length c2)]) (ks.length - ·) 0 ⟨by omega,fun j hj=>by omega⟩ (fun w h=>h) ⟨rfl,rfl,rfl,rfl,trivial⟩ ?_;rintro k ⟨hk,hne⟩
  repeat refine W ?_
  refine V.ifp (fun hlt=>?_) (fun hge=>?_)
  ·have hlt:k<ks.length:=by omega
   obtain⟨x,hx⟩:∃ x,ks[k]? =F x:=⟨_,List.getElem?_eq_getElem hlt⟩
   obtain⟨y,hy⟩:∃ y,ls[k]? =F y:=⟨_,List.getElem?_eq_getElem (by omega)⟩
   obtain⟨b,o,rfl,_,hc⟩:=h k x hx;obtain⟨b2,o2,rfl,_,hc2⟩:=h2 k y hy
   repeat refine W ?_
   refine R.ix hlt ?_;refine R.lo 0 hc ?_
   repeat refine W ?_
   refine R.ix (show k<ls.length by omega) ?_;refine R.lo 0 hc2 ?_
   repeat refine W ?_
   refine V.if (fun he=>?_) (fun he=>?_)
   ·repeat refine W ?_
    refine V.end fun w' h'=>?_;have:ks≠ls:=fun e=>by subst e;rw[hx] at hy;cases hy;simp at he
    exact⟨by simp[one,this],h'.1.below⟩
   ·repeat refine W ?_
    exact V.again (k+1) rfl ⟨hlt,fun j hj=>by
     by_cases e:j=k
     ·subst e;rw[hx,hy];simp at he;rw[he]
     ·exact hne j (by omega)⟩
  ·repeat refine W ?_
   refine V.end fun w' h'=>?_;have:ks=ls:=Wk hl (k:=k) (by omega) hne;exact⟨by simp[one,this],h'.1.below⟩
end
end Go.Proofs.YtdpppepmkeinaaaGreatDoor
