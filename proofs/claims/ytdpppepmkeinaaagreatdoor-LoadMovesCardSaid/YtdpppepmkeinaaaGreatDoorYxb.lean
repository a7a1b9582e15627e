/- What is proved: a part of the walk of the program and of its plain laws; no condition beside those that each theorem names. -/
import Derived.Test.YtdpppepmkeinaaaGreatDoorYxa
import Derived.Test.YtdpppepmkeinaaaGreatDoorYw
import Derived.Test.YtdpppepmkeinaaaGreatDoorYu
import Derived.Test.YtdpppepmkeinaaaGreatDoorYa
import Derived.Test.YtdpppepmkeinaaaGreatDoorProg
import Derived.Laws.Externs
namespace Go.Proofs.YtdpppepmkeinaaaGreatDoor
open Go Go.RowKit Go.Lib
open Go.Value renaming int->I,string->Q,slice->Z
open Go.IntKind renaming i64->J
open Option renaming none->O,some->F
open _root_.Go renaming World->Y
set_option linter.unusedSimpArgs false
set_option linter.unusedVariables false
set_option linter.unusedSectionVars false
section
set_option maxHeartbeats 16000000
set_option maxRecDepth 100000
section
variable {wB:Y} {A:Option Addr} {c:Nat} {l:List C8}
theorem LE (hP:Ok wB A l) (r p:Nat) (k:Int) (y:TY) (w:Y) (hB:Below wB.heap.size wB w) (hp:p<=l.length):
  Dm Tryz.prog 286 #[.pointer (F ⟨r,0,O⟩),I J k,.agg (AM y).toArray] w (Cv A c l r p) (Hx wB) (fun _:Unit=>if Eg l p [k] then .iface 439 (.agg (AM y).toArray) else Us 91) (fun _=>Cv A c l r (if Eg l p [k] then p+1 else p)):=by
 intro Fz hX hF hQ;refine V.enter _ Tryz.func286 (Mem.startX hX hF) ?_;refine W ?_;refine R.new fun b5 h5=>?_
 repeat refine W ?_
 refine R.cq (fun w' h'=>Is (c:=c) hP r p k w' (B4.belowB hB hQ h'.1) hp) (fun G hG=>Hx.of hB hQ G hG) (fun _=>?_)
 repeat refine W ?_
 cases Eg l p [k] with
 | true=>
  repeat refine W ?_
  refine V.end fun w' h'=>?_;exact⟨(),rfl,Mem.toW h'.sel⟩
 | false=>
  repeat refine W ?_
  refine R.c (fun w' h'=>CZ 91 w') ?_
  repeat refine W ?_
  refine V.end fun w' h'=>?_;exact⟨(),rfl,Mem.toW h'.sel⟩
theorem L4 (r:Nat) (k:Int) (f:FuncId) (cap:Array Value) (w:Y):Calls Tryz.prog 285 #[.pointer (F ⟨r,0,O⟩),I J k,.func (.func f) #[] cap] w fun e w'=>∃ q:Nat×Nat×Nat,e=.returned (.func (.func 293) #[] #[.pointer (F ⟨q.1,0,O⟩),.pointer (F ⟨q.2.1,0,O⟩),.pointer (F ⟨q.2.2,0,O⟩)])/\Fr w w' [blk q.1 [.pointer (F ⟨r,0,O⟩)] 394,blk q.2.1 [I J k] 3,blk q.2.2 [.func (.func f) #[] cap] 442]:=by
 refine V.enter _ Tryz.func285 (Mem.start (C:=A5) w) ?_;refine W ?_;refine R.new fun b3 h3=>?_;refine R.new fun b4 h4=>?_;refine R.new fun b5 h5=>?_
 repeat refine W ?_
 refine V.end fun w' h'=>?_;exact⟨(b3,b4,b5),rfl,(h'.sel:Mem A5 w [_,_,_] w').to_fr⟩
end
abbrev HY:=Sc×FR×TY×Nat
def itV (T:Bool) (x:Sc) (r:FR) (y:TY):Value:=match r with
 | .ok _ _=>if T then .iface 448 (.agg (Fl x++AM y).toArray) else .iface 439 (.agg (AM y).toArray)
 | .bad e=>Us e
def frT (r:FR) (y:TY):List Aw:=match r with
 | .ok t _=>[A9 (AM y) t]
 | .bad _=>[]
structure ItP (wB:Y) (A:Option Addr) (c:Nat) (l:List C8) (r:Nat) (f:FuncId) (caps:List Value) (Yz:Aw) (T:Bool) (k:Int) (p0 n0:Nat) (step:Nat->Nat->Sc×FR):Prop where
 rd:Ok wB A l
 hf:∀ args w,(callFunc f args).run Tryz.prog w=.ok (.enter f args) w
 hp0:p0<=l.length
 hn0:2*(l.length - p0)+2<=n0
 len:∀ i q t rest,(step i q).2=.ok t rest->rest.length<=l.length - q
 one:∀ i q w,Below wB.heap.size wB w->q<=l.length->2*(l.length - q)+2+i<=n0->Dm Tryz.prog f caps.toArray w (star [Yz,Cv A c l r q]) (Hx wB) (fun x:TY×Nat=>itV T (step i q).1 (step i q).2 x.1) (fun x=>star [Yz,Ur A c l r (step i q).2 x])
section
variable (A:Option Addr) (c:Nat) (l:List C8) (r:Nat) (k:Int) (p0:Nat) (step:Nat->Nat->Sc×FR)
def ItX (i q:Nat) (x:HY):Prop:=(x.1,x.2.1)=step i q/\∀ t rest,x.2.1=.ok t rest->x.2.2.2<=l.length/\rest=at_ l x.2.2.2
inductive Ch:List HY->Nat->Prop
 | nil:Ch [] p0
 | snoc (pre:List HY) (q:Nat) (x:HY) (h:Ch pre q) (he:Eg l q [k]=false) (hx:ItX l step pre.length q x) (ho:∃ t rest,x.2.1=.ok t rest) (hc:Eg l x.2.2.2 [7]=true):Ch (pre++[x]) (x.2.2.2+1)
def rdX (xs:List HY):Aw:=match xs.getLast? with
 | none=>Cv A c l r p0
 | some x=>match x.2.1 with
  | .ok _ _=>Cv A c l r (if Eg l x.2.2.2 [7] then x.2.2.2+1 else x.2.2.2)
  | .bad _=>pr True
def ItF (xs:List HY):Prop:=(∃ q,Ch l k p0 step xs q/\Eg l q [k]=true)\/∃ pre x q,xs=pre++[x]/\Ch l k p0 step pre q/\Eg l q [k]=false/\ItX l step pre.length q x/\((∃ e,x.2.1=.bad e)\/Eg l x.2.2.2 [7]=false)
def ItA (pre:List HY) (x:HY):Prop:=∃ q,Ch l k p0 step pre q/\Eg l q [k]=false/\ItX l step pre.length q x
end
theorem Adh {C:Nat->Prop} {w0 w:Y} {Zz:List Aw} {A:Option Addr} {c:Nat} {l:List C8} {r p:Nat} (h:Mem C w0 Zz w) (hx:Cv A c l r p∈Zz):Cs w r 0 [Z A l.length c,I J p]:=Cs.of_blk (h.blk hx)
theorem KQ {l:List C8} {p:Nat} {ks:List Int} (h:Eg l p ks=true):p<l.length:=by
 unfold Eg at h;cases hp:l[p]? with
 | none=>rw[hp] at h;cases h
 | some t=>exact(List.getElem?_eq_some_iff.1 hp).1
theorem Lx (l:List C8) (p:Nat):(at_ l p).length=l.length - p:=by unfold at_;simp
theorem Ch.rd {A:Option Addr} {c:Nat} {l:List C8} {r:Nat} {k:Int} {p0:Nat} {step:Nat->Nat->Sc×FR} {xs:List HY} {q:Nat} (h:Ch l k p0 step xs q):rdX A c l r p0 xs=Cv A c l r q:=by
 cases h with
 | nil=>rfl
 | snoc pre q x h he hx ho hc=>
  obtain⟨t,rest,ho⟩:=ho;unfold rdX;rw[List.getLast?_concat];dsimp only
  rw[ho];dsimp only
  rw[hc,if_pos rfl]
theorem Ad5 {A:Option Addr} {c:Nat} {l:List C8} {r p0:Nat} {xs:List HY} {sx:Sc} {e:Int} {x:TY×Nat}:rdX A c l r p0 (xs++[(sx,.bad e,x)])=pr True:=by
 unfold rdX;rw[List.getLast?_concat]
theorem Aah {A:Option Addr} {c:Nat} {l:List C8} {r p0:Nat} {xs:List HY} {sx:Sc} {t:Tr} {rest:List Pc} {x:TY×Nat}:rdX A c l r p0 (xs++[(sx,.ok t rest,x)])=Cv A c l r (if Eg l x.2 [7] then x.2+1 else x.2):=by
 unfold rdX;rw[List.getLast?_concat]
theorem Ch.fu {wB:Y} {A:Option Addr} {c:Nat} {l:List C8} {r:Nat} {f:FuncId} {caps:List Value} {Yz:Aw} {T:Bool} {k:Int} {p0 n0:Nat} {step:Nat->Nat->Sc×FR} (hP:ItP wB A c l r f caps Yz T k p0 n0 step) {xs:List HY} {q:Nat} (h:Ch l k p0 step xs q):q<=l.length/\2*(l.length - q)+2+xs.length<=n0:=by
 induction h with
 | nil=>exact⟨hP.hp0,hP.hn0⟩
 | snoc pre q x h he hx ho hc ih=>
  obtain⟨t,rest,ho⟩:=ho;have h1:=hP.len pre.length q t rest (by rw[<- hx.1];exact ho);obtain⟨h2,h3⟩:=hx.2 t rest ho;rw[h3,Lx] at h1;have:=KQ hc;rw[List.length_append,List.length_singleton];omega
theorem Ac5 {wB:Y} {A:Option Addr} {c:Nat} {l:List C8} {r:Nat} {f:FuncId} {caps:List Value} {Yz:Aw} {T:Bool} {k:Int} {p0 n0:Nat} {step:Nat->Nat->Sc×FR} (hP:ItP wB A c l r f caps Yz T k p0 n0 step) (b3 b4 b5:Nat):
  Jl Tryz.prog 293 #[.pointer (F ⟨b3,0,O⟩),.pointer (F ⟨b4,0,O⟩),.pointer (F ⟨b5,0,O⟩)] (fun(x:HY)=>[itV T x.1 x.2.1 x.2.2.1]) (fun x=>frT x.2.1 x.2.2.1) (fun xs=>[blk b3 [.pointer (F ⟨r,0,O⟩)] 394,blk b4 [I J k] 3,blk b5 [.func (.func f) #[] caps.toArray] 442,Yz,rdX A c l r p0 xs])
   (ItA l k p0 step) (ItF l k p0 step) (fun w G=>Below wB.heap.size wB w/\Hx wB G):=by
 refine Jl.of fun lp Jz Jx w G hSt hG hY hM=>?_;obtain⟨hB,hQ⟩:=hSt;refine V.enter _ Tryz.func293 hM ?_;refine V.loop (ι:=List HY×Nat) (fun x=>Ch l k p0 step x.1 x.2) (fun x=>Mem G w ([blk b3 [.pointer (F ⟨r,0,O⟩)] 394,blk b4 [I J k] 3,blk b5 [.func (.func f) #[] caps.toArray] 442,Yz,Cv A c l r x.2,Jz x.1])) (fun x=>[(0,.func (.yield lp) #[] #[]),(1,.pointer (F ⟨b3,0,O⟩)),(2,.pointer (F ⟨b4,0,O⟩)),(3,.pointer (F ⟨b5,0,O⟩))]) (fun x=>l.length+1 - x.2) ([],p0) .nil (fun w h=>h.sel) ⟨rfl,rfl,rfl,rfl,trivial⟩ ?_;rintro⟨xs,q⟩ hxs;dsimp only at hxs;have hfu:=hxs.fu hP
 repeat refine W ?_
 refine R.bs (m:=1) (cs:=[I J k]) (bt:=3) (fun bk hb=>?_);refine R.c (fun w' h'=>JM (fun b=>b<wB.heap.size) (fun _=>True) r A (F ⟨bk,0,O⟩) c 1 l q [k] w' (Adh h' (by simp)) (hP.rd.at hB hQ h'.1) (isRow (Cs.of_blk (h'.blk (List.Mem.head _)))) (by simp)) ?_
 repeat refine W ?_
 cases he:Eg l q [k] with
 | true=>
  repeat refine W ?_
  refine V.end fun w' h'=>?_;exact⟨⟨_,rfl⟩,.inl ⟨xs,.inl ⟨q,hxs,he⟩,by dsimp only;rw[hxs.rd];exact h'.sel⟩⟩
 | false=>
  refine W ?_;refine V.pre (S':=Mem G w [star [Yz,Cv A c l r q],Jz xs,blk b3 [.pointer (F ⟨r,0,O⟩)] 394,blk b4 [I J k] 3,blk b5 [.func (.func f) #[] caps.toArray] 442]) ?_ (by intro w' h';exact Mem.toStar (B:=[Yz,Cv A c l r q]) h'.sel)
  repeat refine W ?_
  refine R.cq (fun w' h'=>hP.one xs.length q w' (B4.belowB hB hQ h'.1) hfu.1 hfu.2) (fun G hG=>Hx.of hB hQ G hG) (fun x=>?_) (hr:=hP.hf);iterate 2 refine W ?_
  refine V.star ?_;obtain⟨⟨sx,sr⟩,hst⟩:∃ s,step xs.length q=s:=⟨_,rfl⟩
  rw[hst];cases sr with
  | bad e=>
   dsimp only[Ur,itV,Us]
   have hxi:ItX l step xs.length q (sx,.bad e,x):=⟨hst.symm,fun t rest h=>by cases h⟩
   repeat (first | refine W ?_ | refine R.new fun _ _=>?_)
   refine R.y (Jz:=Jz xs) (J':=Jz (xs++[(sx,.bad e,x)])) (Jx:=Jx (xs++[(sx,.bad e,x)])) (hY xs (sx,.bad e,x) ⟨q,hxs,he,hxi⟩) ?_ ?_
   ·repeat refine W ?_
    refine V.end fun w' h'=>?_;exact⟨⟨_,rfl⟩,.inl ⟨xs++[(sx,.bad e,x)],.inr ⟨xs,_,q,rfl,hxs,he,hxi,.inl ⟨e,rfl⟩⟩,by dsimp only;rw[Ad5];exact(h'.pr (p:=True) trivial).sel⟩⟩
   ·repeat refine W ?_
    refine V.end fun w' h'=>?_;exact⟨⟨_,rfl⟩,.inr ⟨_,h'.sel⟩⟩
  | ok t rest=>
   dsimp only[Ur,itV]
   refine V.pre (S':=Mem G w [star [Cv A c l r x.2,A9 (AM x.1) t,pr (x.2<=l.length/\rest=(l.drop x.2).map Fm)],Yz,Jz xs,blk b3 [.pointer (F ⟨r,0,O⟩)] 394,blk b4 [I J k] 3,blk b5 [.func (.func f) #[] caps.toArray] 442]) ?_ (by intro w' h';exact h'.sel);refine V.star ?_;refine V.prop (fun hp=>?_) (hp:=.tail _ (.tail _ (.head _)));refine V.pre (S':=Mem G w [star [A9 (AM x.1) t,Jz xs],Cv A c l r x.2,Yz,blk b3 [.pointer (F ⟨r,0,O⟩)] 394,blk b4 [I J k] 3,blk b5 [.func (.func f) #[] caps.toArray] 442]) ?_ (by intro w' h';exact Mem.toStar (B:=[A9 (AM x.1) t,Jz xs]) (Mem.sel h'));have hxi:ItX l step xs.length q (sx,.ok t rest,x):=⟨hst.symm,fun t rest h=>by cases h;exact hp⟩
   cases T
   all_goals
    repeat (first | refine W ?_ | refine R.new fun _ _=>?_)
    refine R.y (Jz:=star [A9 (AM x.1) t,Jz xs]) (J':=Jz (xs++[(sx,.ok t rest,x)])) (Jx:=Jx (xs++[(sx,.ok t rest,x)])) (hY xs (sx,.ok t rest,x) ⟨q,hxs,he,hxi⟩) ?_ ?_
    ·repeat refine W ?_
     refine R.cq (fun w' h'=>Is (c:=c) hP.rd r x.2 7 w' (B4.belowB hB hQ h'.1) hp.1) (fun G hG=>Hx.of hB hQ G hG) (fun _=>?_)
     repeat refine W ?_
     cases hc:Eg l x.2 [7] with
     | true=>
      repeat refine W ?_
      have:=KQ hc;have h5:rest.length<=l.length - q:=hP.len xs.length q t rest (by rw[hst]);have h6:rest.length=l.length - x.2:=by rw[hp.2];simp
      exact V.again (xs++[(sx,.ok t rest,x)],x.2+1) rfl (.snoc xs q _ hxs he hxi ⟨t,rest,rfl⟩ hc)
     | false=>
      repeat refine W ?_
      refine V.end fun w' h'=>?_;exact⟨⟨_,rfl⟩,.inl ⟨xs++[(sx,.ok t rest,x)],.inr ⟨xs,_,q,rfl,hxs,he,hxi,.inr hc⟩,by dsimp only;rw[Aah,hc];exact h'.sel⟩⟩
    ·repeat refine W ?_
     refine V.end fun w' h'=>?_;exact⟨⟨_,rfl⟩,.inr ⟨_,h'.sel⟩⟩
end
section
open Go Go.RowKit Go.Extern.Stop Go.Stop Go.Extern
set_option maxRecDepth 100000
namespace Ea
abbrev rt (t:TypeId):Value:=.iface 233 (.agg #[.pointer (F ⟨10,t,O⟩)])
abbrev rv (t:TypeId) (b:Nat) (fl:Int):Value:=.agg #[.pointer (F ⟨10,t,O⟩),.pointer (F ⟨b,0,O⟩),.int .u64 fl]
structure U9 (T PT:TypeId) (k:Nat):Prop where
 valueOfP:∀ (t:Addr) w,(ReflectliteValue.unpack (.iface PT (.pointer (F t)))).run Tryz.prog w=.ok (rv PT w.heap.size 150) (w.alloc (.cells #[.pointer (F t)] PT))
 typeP:∀ b w,(ReflectliteValue.methodAny (ReflectliteValue.valueError "reflectlite.Value.Type" 0) (fun t _ _ _=>ReflectliteType.toType t) #[rv PT b 150]).run Tryz.prog w=.ok (rt PT) w
 kindP:∀ w,((ReflectliteType.abiMethod fun t=>(fun a:Nat=>Value.int IntKind.u8 (a:Int))<$>Rtype.kind t) #[.pointer (F ⟨10,PT,O⟩)]).run Tryz.prog w=.ok (.int .u8 22) w
 kindE:∀ w,((ReflectliteType.abiMethod fun t=>(fun a:Nat=>Value.int IntKind.u8 (a:Int))<$>Rtype.kind t) #[.pointer (F ⟨10,T,O⟩)]).run Tryz.prog w=.ok (.int .u8 25) w
 partsP:∀ b w,(ReflectliteValue.parts (rv PT b 150)).run Tryz.prog w=.ok (F (PT,⟨b,0,O⟩,150)) w
 undP:Tryz.prog.underlying PT=F (.pointer T)
 elemP:∀ w,(ReflectliteType.method ReflectliteType.elem #[.agg #[.pointer (F ⟨10,PT,O⟩)]]).run Tryz.prog w=.ok (rt T) w
 impE:∀ w,(ReflectliteType.relation "Implements" ReflectliteType.implements_ #[.agg #[.pointer (F ⟨10,T,O⟩)],rt 61]).run Tryz.prog w=.ok (.bool true) w
 typeOfE:∀ v w,(ReflectliteType.typeOf #[.iface T v]).run Tryz.prog w=.ok (rt T) w
 assE:∀ w,(ReflectliteType.relation "AssignableTo" ReflectliteType.assignableTo #[.agg #[.pointer (F ⟨10,T,O⟩)],rt T]).run Tryz.prog w=.ok (.bool true) w
 valueOfE:∀ (vs:List Value) w,vs.length=k->(ReflectliteValue.unpack (.iface T (.agg vs.toArray))).run Tryz.prog w=.ok (rv T w.heap.size 153) (w.alloc (.cells vs.toArray T))
 elemOfP:∀ w,(Rtype.elem? PT).run Tryz.prog w=.ok (F T) w
 mkE:∀ b w,(ReflectliteValue.mk T ⟨b,0,O⟩ ReflectliteValue.flagAddr).run Tryz.prog w=.ok (rv T b 409) w
 partsA:∀ b w,(ReflectliteValue.parts (rv T b 409)).run Tryz.prog w=.ok (F (T,⟨b,0,O⟩,409)) w
 partsE:∀ b w,(ReflectliteValue.parts (rv T b 153)).run Tryz.prog w=.ok (F (T,⟨b,0,O⟩,153)) w
 dirE:∀ w,(Rtype.directlyAssignable T T).run Tryz.prog w=.ok true w
 sizeE:∀ w,(sizeOf T).run Tryz.prog w=.ok k w
 aggE:∀ w,(isAgg T).run Tryz.prog w=.ok true w
theorem Ag6 (h:Value) (w:Y):(Go.method 587 233 (.agg #[h]) "Kind").run Tryz.prog w=.ok (315,h) w:=by kernel_rfl
theorem Ak2 (h:Value) (w:Y):(Go.method 587 233 (.agg #[h]) "Elem").run Tryz.prog w=.ok (332,.agg #[h]) w:=by kernel_rfl
theorem Amf (h:Value) (w:Y):(Go.method 587 233 (.agg #[h]) "Implements").run Tryz.prog w=.ok (333,.agg #[h]) w:=by kernel_rfl
theorem Amx (h:Value) (w:Y):(Go.method 587 233 (.agg #[h]) "AssignableTo").run Tryz.prog w=.ok (330,.agg #[h]) w:=by kernel_rfl
theorem PF (args:Array Value) (w:Y):(callFunc 76 args).run Tryz.prog w=(((fun args=>ReflectliteValue.unpack (args.getD 0 (.tuple #[]))) args).run Tryz.prog w).andThen (fun v w'=>.ok (.value v) w'):=run_callFunc_extern (e:=(fun args=>ReflectliteValue.unpack (args.getD 0 (.tuple #[])))) Tryz.func76 (by kernel_rfl) (by kernel_rfl) (by kernel_rfl) (by kernel_rfl) args w
theorem Ajb (args:Array Value) (w:Y):(callFunc 77 args).run Tryz.prog w=(((ReflectliteValue.methodAny (ReflectliteValue.valueError "reflectlite.Value.Type" 0) (fun t _ _ _=>ReflectliteType.toType t)) args).run Tryz.prog w).andThen (fun v w'=>.ok (.value v) w'):=run_callFunc_extern (e:=(ReflectliteValue.methodAny (ReflectliteValue.valueError "reflectlite.Value.Type" 0) (fun t _ _ _=>ReflectliteType.toType t))) Tryz.func77 (by kernel_rfl) (by kernel_rfl) (by kernel_rfl) (by kernel_rfl) args w
theorem Agc (args:Array Value) (w:Y):(callFunc 78 args).run Tryz.prog w=(((ReflectliteValue.method (ReflectliteValue.valueError "reflectlite.Value.IsNil" 0) ReflectliteValue.isNil) args).run Tryz.prog w).andThen (fun v w'=>.ok (.value v) w'):=run_callFunc_extern (e:=(ReflectliteValue.method (ReflectliteValue.valueError "reflectlite.Value.IsNil" 0) ReflectliteValue.isNil)) Tryz.func78 (by kernel_rfl) (by kernel_rfl) (by kernel_rfl) (by kernel_rfl) args w
theorem Adr (args:Array Value) (w:Y):(callFunc 315 args).run Tryz.prog w=(((ReflectliteType.abiMethod fun t=>do pure (.int .u8 (<- Rtype.kind t))) args).run Tryz.prog w).andThen (fun v w'=>.ok (.value v) w'):=run_callFunc_extern (e:=(ReflectliteType.abiMethod fun t=>do pure (.int .u8 (<- Rtype.kind t)))) Tryz.func315 (by kernel_rfl) (by kernel_rfl) (by kernel_rfl) (by kernel_rfl) args w
theorem Ajm (args:Array Value) (w:Y):(callFunc 332 args).run Tryz.prog w=(((ReflectliteType.method ReflectliteType.elem) args).run Tryz.prog w).andThen (fun v w'=>.ok (.value v) w'):=run_callFunc_extern (e:=(ReflectliteType.method ReflectliteType.elem)) Tryz.func332 (by kernel_rfl) (by kernel_rfl) (by kernel_rfl) (by kernel_rfl) args w
theorem Aks (args:Array Value) (w:Y):(callFunc 333 args).run Tryz.prog w=(((ReflectliteType.relation "Implements" ReflectliteType.implements_) args).run Tryz.prog w).andThen (fun v w'=>.ok (.value v) w'):=run_callFunc_extern (e:=(ReflectliteType.relation "Implements" ReflectliteType.implements_)) Tryz.func333 (by kernel_rfl) (by kernel_rfl) (by kernel_rfl) (by kernel_rfl) args w
theorem T7 (args:Array Value) (w:Y):(callFunc 117 args).run Tryz.prog w=(((ReflectliteType.typeOf) args).run Tryz.prog w).andThen (fun v w'=>.ok (.value v) w'):=run_callFunc_extern (e:=(ReflectliteType.typeOf)) Tryz.func117 (by kernel_rfl) (by kernel_rfl) (by kernel_rfl) (by kernel_rfl) args w
theorem Ak0 (args:Array Value) (w:Y):(callFunc 330 args).run Tryz.prog w=(((ReflectliteType.relation "AssignableTo" ReflectliteType.assignableTo) args).run Tryz.prog w).andThen (fun v w'=>.ok (.value v) w'):=run_callFunc_extern (e:=(ReflectliteType.relation "AssignableTo" ReflectliteType.assignableTo)) Tryz.func330 (by kernel_rfl) (by kernel_rfl) (by kernel_rfl) (by kernel_rfl) args w
theorem Ad4 (args:Array Value) (w:Y):(callFunc 118 args).run Tryz.prog w=(((ReflectliteValue.method (ReflectliteValue.valueError "reflectlite.Value.Elem" 0) ReflectliteValue.elem) args).run Tryz.prog w).andThen (fun v w'=>.ok (.value v) w'):=run_callFunc_extern (e:=(ReflectliteValue.method (ReflectliteValue.valueError "reflectlite.Value.Elem" 0) ReflectliteValue.elem)) Tryz.func118 (by kernel_rfl) (by kernel_rfl) (by kernel_rfl) (by kernel_rfl) args w
theorem Aky (args:Array Value) (w:Y):(callFunc 119 args).run Tryz.prog w=(((ReflectliteValue.set) args).run Tryz.prog w).andThen (fun v w'=>.ok (.value v) w'):=run_callFunc_extern (e:=(ReflectliteValue.set)) Tryz.func119 (by kernel_rfl) (by kernel_rfl) (by kernel_rfl) (by kernel_rfl) args w
theorem rlm (z:Sem Value) (f:TypeId->Addr->Nat->Nat->Sem Value) (v:Value):ReflectliteValue.method z f #[v]=(do match <- ReflectliteValue.parts v with | none=>z | some (t,a,fl)=>f t a fl (fl%32)):=rfl
section
variable {T PT:TypeId} {k:Nat} (H:U9 T PT k)
include H
theorem V2 {b tb:Nat} {w:Y} (hc:w.cell? ⟨b,0,O⟩=F (.pointer (F ⟨tb,0,O⟩))):(ReflectliteValue.method (ReflectliteValue.valueError "reflectlite.Value.IsNil" 0) ReflectliteValue.isNil #[rv PT b 150]).run Tryz.prog w=.ok (.bool false) w:=by
 rw[rlm];simp only[Sem.run_bind,H.partsP,Result.andThen]
 simp[ReflectliteValue.isNil,loadVar,isAgg,underlying,H.undP,hc,Result.andThen]
theorem UD {b tb:Nat} {w:Y} (hc:w.cell? ⟨b,0,O⟩=F (.pointer (F ⟨tb,0,O⟩))):(ReflectliteValue.method (ReflectliteValue.valueError "reflectlite.Value.Elem" 0) ReflectliteValue.elem #[rv PT b 150]).run Tryz.prog w=.ok (rv T tb 409) w:=by
 rw[rlm];simp only[Sem.run_bind,H.partsP,Result.andThen]
 simp[ReflectliteValue.elem,loadVar,isAgg,underlying,H.undP,hc,Result.andThen,H.elemOfP,H.mkE]
theorem Ah3 {tb b:Nat} {vs os:List Value} {w:Y} (hvl:vs.length=k) (hol:os.length=k) (h1:vs.all Value.oneCell'=true) (hb:Cs w b 0 vs) (ht:w.heap[tb]? =F (.cells os.toArray T)):
  ∃ w',(ReflectliteValue.set #[rv T tb 409,rv T b 153]).run Tryz.prog w=.ok (.tuple #[]) w'/\w'.heap[tb]? =F (.cells vs.toArray T)/\B4 (fun k=>k=tb) w w'/\w'.heap.size=w.heap.size:=by
 have hset:Bo os 0 vs=F vs:=by
  subst hvl;clear hb ht h1 H;induction vs generalizing os with
  | nil=>cases os with
   | nil=>rfl
   | cons _ _=>cases hol
  | cons v vs ih=>cases os with
   | nil=>cases hol
   | cons o os=>
    have:=ih (os:=os) (by simpa using hol);show(match Bo os 0 vs with | some r=>F (v::r) | none=>O)=_;rw[this]
 obtain⟨w',k1,k2,k3,k4⟩:=Hp (P:=Tryz.prog) (b:=tb) (o:=0) vs 0 os vs w ht hset h1;refine⟨w',?_,k2,k3,k4⟩;have hld:(loadCells ⟨b,0,O⟩ k).run Tryz.prog w=.ok vs.toArray w:=by
  have:=La (P:=Tryz.prog) vs 0 #[] hb;rw[hvl] at this;simpa[loadCells] using this
 have hst:(storeVar T ⟨tb,0,O⟩ (.agg vs.toArray)).run Tryz.prog w=.ok () w':=by
  unfold storeVar;have hcz:(Value.agg vs.toArray).cells=vs.toArray:=rfl;simp[Sem.run_bind,H.sizeE,hcz,hvl,k1]
 have hset2:ReflectliteValue.set #[rv T tb 409,rv T b 153]=(do
  let (F (dst,a,fl),F (src,b,_)):=(<- ReflectliteValue.parts (rv T tb 409),<- ReflectliteValue.parts (rv T b 153))
   | unsupported (.noEntry "extern/(internal/reflectlite.Value).Set.zeroValue")
  if fl / ReflectliteValue.flagAddr%2==0 then unsupported (.noEntry "extern/(internal/reflectlite.Value).Set.unaddressable")
  let val <- loadVar src b
  if <- Rtype.directlyAssignable dst src then storeVar dst a val
  else if <- Rtype.implements dst src then
   if (<- Rtype.kind src)==20 then
    match val with
    | .nilIface=>unsupported (.noEntry "extern/reflectlite: a nil value of one interface type handed on as a value of another")
    | _=>storeVar dst a val
   else storeVar dst a (.iface src val)
  else panicString ("reflectlite.Set: value of type "++(<- Rtype.spelt src)++ " is not assignable to type "++(<- Rtype.spelt dst))
  pure (.tuple #[])):=rfl
 rw[hset2];simp only[Sem.run_bind,H.partsA,H.partsE,Result.andThen]
 simp[ReflectliteValue.flagAddr,loadVar,H.aggE,H.sizeE,hld,Result.andThen,H.dirE,hst]
end
end Ea
end
section
set_option maxHeartbeats 4000000
open Go Go.RowKit Go.Extern.Stop Go.Stop Go.Extern
set_option maxRecDepth 100000
namespace Ea
variable {T PT:TypeId} {k:Nat} (H:U9 T PT k)
include H
theorem Ak8 {vs os:List Value} {tb b:Nat} (hvl:vs.length=k) (hol:os.length=k) (h1:vs.all Value.oneCell'=true) (w:Y) (hne:b≠tb) (hb:Cs w b 0 [.pointer (F ⟨tb,0,O⟩)]):
  Ex Tryz.prog 79 #[.iface T (.agg vs.toArray),.iface PT (.pointer (F ⟨tb,0,O⟩)),rv PT b 150,rt T] w (blk tb os T) (fun _:Unit=>.bool true) (fun _=>blk tb vs T):=by
 refine Ex.blk fun hX=>?_;refine V.enter _ Tryz.func79 (Mem.startX (Fz:=fun k=>k=tb) (X:=blk tb os T) ⟨rfl,hX⟩ (fun b e=>by subst e;exact(Gl hX))) ?_;refine W ?_;refine R.new fun bx _=>?_
 repeat refine W ?_
 refine V.loop (fun _:Unit=>True) (fun _=>Mem (fun k=>k=tb) w [blk bx [.pointer (F ⟨10,PT,O⟩),.pointer (F ⟨b,0,O⟩),.int .u64 150] 170,blk tb os T]) (fun _=>[(0,.iface T (.agg vs.toArray)),(1,.iface PT (.pointer (F ⟨tb,0,O⟩))),(3,rt T),(6,.pointer (F ⟨bx,0,O⟩))]) (fun _=>0) () trivial (fun w h=>h) ⟨rfl,rfl,rfl,rfl,trivial⟩ ?_;intro _ _
 repeat refine W ?_
 refine R.xp (v:=rt T) ?_ ?_
 ·intro ρ w h hm;simp only[Op.operands,Call.operands,GD,Array.toList_append,List.toList_toArray,List.map_cons,List.map_nil,List.nil_append,List.cons_append] at h;simp[go_sem,h,T7,H.typeOfE]
 repeat refine W ?_
 refine R.xp (v:=.bool true) ?_ ?_
 ·intro ρ w h hm;simp only[Op.operands,Call.operands,GD,Array.toList_append,List.toList_toArray,List.map_cons,List.map_nil,List.nil_append,List.cons_append] at h;simp[go_sem,h,Ak0,H.assE,Amx]
 repeat refine W ?_
 refine R.xp (v:=rv T tb 409) ?_ ?_
 ·intro ρ w h hm;simp only[Op.operands,Call.operands,GD,Array.toList_append,List.toList_toArray,List.map_cons,List.map_nil,List.nil_append,List.cons_append] at h;simp[go_sem,h,Ad4,UD H (hm.1.cell (hb 0 _ rfl) hne)]
 repeat refine W ?_
 refine R.xn (v:=fun b=>rv T b 153) (cs:=vs) (bt:=T) ?_ (fun be _=>?_)
 ·intro ρ w h;simp only[Op.operands,Call.operands,GD,Array.toList_append,List.toList_toArray,List.map_cons,List.map_nil,List.nil_append,List.cons_append] at h;simp[go_sem,h,PF,H.valueOfE vs _ hvl]
 refine R.xe (ι:=Unit) (v:=fun _=>.tuple #[]) (A':=fun _=>[blk tb vs T,blk be vs T,blk bx [.pointer (F ⟨10,PT,O⟩),.pointer (F ⟨b,0,O⟩),.int .u64 150] 170]) (fun ρ w h hm=>?_) (fun _=>?_)
 ·obtain⟨Fz,⟨f1,f2⟩,f3,f4⟩:=hm.own (Pk.tl (Pk.tl Pk.hd));obtain⟨w',k1,k2,k3,k4⟩:=Ah3 H hvl hol h1 (Cs.of_blk (hm.blk (List.Mem.head _))) f2;simp only[Op.operands,Call.operands,GD,Array.toList_append,List.toList_toArray,List.map_cons,List.map_nil,List.nil_append,List.cons_append] at h;exact⟨(),w',by simp[go_sem,h,Aky,k1],f4 (blk tb vs T) Fz w' ⟨f1,k2⟩ (k3.less fun b e=>by subst e;exact f1) (fun b hb=>⟨by rw[k4];exact(f3 b hb).1,.inl hb⟩)⟩
 repeat refine W ?_
 refine V.end fun w' h'=>?_;exact⟨(),rfl,h'.1,h'.blk (List.Mem.head _)⟩
theorem M5 {vs os:List Value} {tb:Nat} (hvl:vs.length=k) (hol:os.length=k) (h1:vs.all Value.oneCell'=true) (w:Y) (hg:w.cell? ⟨0,0,O⟩=F (rt 61)) (hne:0≠tb):
  Ex Tryz.prog 52 #[.iface T (.agg vs.toArray),.iface PT (.pointer (F ⟨tb,0,O⟩))] w (blk tb os T) (fun _:Unit=>.bool true) (fun _=>blk tb vs T):=by
 refine Ex.blk fun hX=>?_;have hcg:Cs w 0 0 [rt 61]:=fun j u hj=>by
  match j,hj with
  | 0,hj=>cases hj;exact hg
 refine V.enter _ Tryz.func52 (Mem.startX (Fz:=fun k=>k=tb) (X:=blk tb os T) ⟨rfl,hX⟩ (fun b e=>by subst e;exact(Gl hX))) ?_
 repeat refine W ?_
 refine R.xn (v:=fun b=>rv PT b 150) (cs:=[.pointer (F ⟨tb,0,O⟩)]) (bt:=PT) ?_ (fun bp hbp=>?_)
 ·intro ρ w h;simp only[Op.operands,Call.operands,GD,Array.toList_append,List.toList_toArray,List.map_cons,List.map_nil,List.nil_append,List.cons_append] at h;simp[go_sem,h,PF,H.valueOfP]
 refine R.new fun b5 _=>?_
 repeat refine W ?_
 refine R.xp (v:=rt PT) ?_ ?_
 ·intro ρ w h hm;simp only[Op.operands,Call.operands,GD,Array.toList_append,List.toList_toArray,List.map_cons,List.map_nil,List.nil_append,List.cons_append] at h;simp[go_sem,h,Ajb,H.typeP]
 repeat refine W ?_
 refine R.xp (v:=.int .u8 22) ?_ ?_
 ·intro ρ w h hm;simp only[Op.operands,Call.operands,GD,Array.toList_append,List.toList_toArray,List.map_cons,List.map_nil,List.nil_append,List.cons_append] at h;simp[go_sem,h,Adr,Ag6,H.kindP]
 repeat refine W ?_
 refine R.xp (v:=.bool false) ?_ ?_
 ·intro ρ w h hm;simp only[Op.operands,Call.operands,GD,Array.toList_append,List.toList_toArray,List.map_cons,List.map_nil,List.nil_append,List.cons_append] at h;simp[go_sem,h,Agc,V2 H (Cs.of_blk (hm.blk (List.Mem.tail _ (List.Mem.head _))) 0 _ rfl)]
 repeat refine W ?_
 refine R.xp (v:=rt T) ?_ ?_
 ·intro ρ w h hm;simp only[Op.operands,Call.operands,GD,Array.toList_append,List.toList_toArray,List.map_cons,List.map_nil,List.nil_append,List.cons_append] at h;simp[go_sem,h,Ajm,Ak2,H.elemP]
 repeat refine W ?_
 refine R.xp (v:=.int .u8 25) ?_ ?_
 ·intro ρ w h hm;simp only[Op.operands,Call.operands,GD,Array.toList_append,List.toList_toArray,List.map_cons,List.map_nil,List.nil_append,List.cons_append] at h;simp[go_sem,h,Adr,Ag6,H.kindE]
 repeat refine W ?_
 refine R.lo 0 hcg ?_ hne
 repeat refine W ?_
 refine R.xp (v:=.bool true) ?_ ?_
 ·intro ρ w h hm;simp only[Op.operands,Call.operands,GD,Array.toList_append,List.toList_toArray,List.map_cons,List.map_nil,List.nil_append,List.cons_append] at h;simp[go_sem,h,Aks,Amf,H.impE]
 repeat refine W ?_
 refine R.cw (X:=blk tb os T) (v:=fun _:Unit=>.bool true) (X':=fun _=>blk tb vs T) (fun w' h'=>Ak8 H hvl hol h1 w' (fun e=>?_) (Cs.of_blk (h'.blk (List.Mem.tail _ (List.Mem.head _))))) (fun _=>?_)
 ·have:=(Gl hX);omega
 repeat refine W ?_
 refine V.end fun w' h'=>?_;exact⟨(),rfl,h'.1,h'.blk (List.Mem.head _)⟩
end Ea
end
section
open Go Go.RowKit Go.Extern.Stop Go.Stop Go.Extern
set_option maxRecDepth 100000
namespace Ea
def ErrC (w:Y):Prop:=w.cell? ⟨0,0,O⟩=F (rt 61)
theorem ErrC.to {C:Nat->Prop} {w w':Y} (h:ErrC w) (hx:B4 C w w') (hn:¬C 0):ErrC w':=hx.cell h hn
theorem UE (v:Value) (w:Y):Calls Tryz.prog 52 #[.nilIface,v] w fun ev w'=>ev=.returned (.bool false)/\Below w.heap.size w w':=by
 refine V.enter _ Tryz.func52 (Mem.start (C:=A5) w) ?_
 repeat refine W ?_
 refine V.end fun w' h'=>?_;exact⟨rfl,h'.1.below⟩
theorem asA:U9 118 119 2 where
 valueOfP _ _:=by kernel_rfl
 typeP _ _:=by kernel_rfl
 kindP _:=by kernel_rfl
 kindE _:=by kernel_rfl
 partsP _ _:=by kernel_rfl
 undP:=by kernel_rfl
 elemP _:=by kernel_rfl
 impE _:=by kernel_rfl
 typeOfE _ _:=by kernel_rfl
 assE _:=by kernel_rfl
 valueOfE vs w h:=by rcases vs with _ | ⟨a,_ | ⟨b,_ | ⟨c,r⟩⟩⟩<;>first | (simp at h;done) | kernel_rfl
 elemOfP _:=by kernel_rfl
 mkE _ _:=by kernel_rfl
 partsA _ _:=by kernel_rfl
 partsE _ _:=by kernel_rfl
 dirE _:=by kernel_rfl
 sizeE _:=by kernel_rfl
 aggE _:=by kernel_rfl
theorem asL:U9 104 106 2 where
 valueOfP _ _:=by kernel_rfl
 typeP _ _:=by kernel_rfl
 kindP _:=by kernel_rfl
 kindE _:=by kernel_rfl
 partsP _ _:=by kernel_rfl
 undP:=by kernel_rfl
 elemP _:=by kernel_rfl
 impE _:=by kernel_rfl
 typeOfE _ _:=by kernel_rfl
 assE _:=by kernel_rfl
 valueOfE vs w h:=by rcases vs with _ | ⟨a,_ | ⟨b,_ | ⟨c,r⟩⟩⟩<;>first | (simp at h;done) | kernel_rfl
 elemOfP _:=by kernel_rfl
 mkE _ _:=by kernel_rfl
 partsA _ _:=by kernel_rfl
 partsE _ _:=by kernel_rfl
 dirE _:=by kernel_rfl
 sizeE _:=by kernel_rfl
 aggE _:=by kernel_rfl
theorem asC:U9 229 231 1 where
 valueOfP _ _:=by kernel_rfl
 typeP _ _:=by kernel_rfl
 kindP _:=by kernel_rfl
 kindE _:=by kernel_rfl
 partsP _ _:=by kernel_rfl
 undP:=by kernel_rfl
 elemP _:=by kernel_rfl
 impE _:=by kernel_rfl
 typeOfE _ _:=by kernel_rfl
 assE _:=by kernel_rfl
 valueOfE vs w h:=by rcases vs with _ | ⟨a,_ | ⟨b,r⟩⟩<;>first | (simp at h;done) | kernel_rfl
 elemOfP _:=by kernel_rfl
 mkE _ _:=by kernel_rfl
 partsA _ _:=by kernel_rfl
 partsE _ _:=by kernel_rfl
 dirE _:=by kernel_rfl
 sizeE _:=by kernel_rfl
 aggE _:=by kernel_rfl
theorem a_told (no e:Int) (w:Y) (hg:ErrC w):Calls Tryz.prog 43 #[.iface 118 (.agg #[I J no,I J e])] w fun ev w'=>ev=.returned (.tuple #[I J no,I J e])/\Below w.heap.size w w':=by
 refine V.enter _ Tryz.func43 (Mem.start (C:=A5) w) ?_
 repeat refine W ?_
 refine R.new fun tb htb=>?_
 repeat refine W ?_
 refine R.cw (X:=blk tb [I J 0,I J 0] 118) (v:=fun _:Unit=>.bool true) (X':=fun _=>blk tb [I J no,I J e] 118) (fun w' h'=>M5 asA (vs:=[I J no,I J e]) rfl rfl rfl w' (h'.1.cell hg fun e=>e) (fun e=>by have:=HO hg;omega)) (fun _=>?_)
 repeat refine W ?_
 refine V.end fun w' h'=>?_;exact⟨rfl,h'.1.below⟩
theorem a_told0 (w:Y):Calls Tryz.prog 43 #[.nilIface] w fun ev w'=>ev=.returned (.tuple #[I J 0,I J 0])/\Below w.heap.size w w':=by
 refine V.enter _ Tryz.func43 (Mem.start (C:=A5) w) ?_
 repeat refine W ?_
 refine R.new fun tb htb=>?_
 repeat refine W ?_
 refine R.c (fun w' h'=>UE _ w') ?_
 repeat refine W ?_
 refine V.end fun w' h'=>?_;exact⟨rfl,h'.1.below⟩
theorem l_told (no e:Int) (w:Y) (hg:ErrC w):Calls Tryz.prog 27 #[.iface 104 (.agg #[I J no,I J e])] w fun ev w'=>ev=.returned (.tuple #[I J no,I J e])/\Below w.heap.size w w':=by
 refine V.enter _ Tryz.func27 (Mem.start (C:=A5) w) ?_
 repeat refine W ?_
 refine R.new fun tb htb=>?_
 repeat refine W ?_
 refine R.cw (X:=blk tb [I J 0,I J 0] 104) (v:=fun _:Unit=>.bool true) (X':=fun _=>blk tb [I J no,I J e] 104) (fun w' h'=>M5 asL (vs:=[I J no,I J e]) rfl rfl rfl w' (h'.1.cell hg fun e=>e) (fun e=>by have:=HO hg;omega)) (fun _=>?_)
 repeat refine W ?_
 refine V.end fun w' h'=>?_;exact⟨rfl,h'.1.below⟩
theorem l_told0 (w:Y):Calls Tryz.prog 27 #[.nilIface] w fun ev w'=>ev=.returned (.tuple #[I J 0,I J 0])/\Below w.heap.size w w':=by
 refine V.enter _ Tryz.func27 (Mem.start (C:=A5) w) ?_
 repeat refine W ?_
 refine R.new fun tb htb=>?_
 repeat refine W ?_
 refine R.c (fun w' h'=>UE _ w') ?_
 repeat refine W ?_
 refine V.end fun w' h'=>?_;exact⟨rfl,h'.1.below⟩
end Ea
end
end Go.Proofs.YtdpppepmkeinaaaGreatDoor
