/- What is proved: a part of the walk of the program and of its plain laws; no condition beside those that each theorem names. -/
import Derived.Test.YtdpppepmkeinaaaGreatDoorYxe
import Derived.Test.YtdpppepmkeinaaaGreatDoorYa
namespace Go.Proofs.YtdpppepmkeinaaaGreatDoor
open Go Go.RowKit Go.Lib
open Go.Value renaming int->I,string->Q,slice->Z
open Go.IntKind renaming i64->J
open Option renaming none->O,some->F
open _root_.Go renaming World->Y
set_option linter.unusedSimpArgs false
set_option linter.unusedVariables false
set_option linter.unusedSectionVars false
section
set_option maxHeartbeats 16000000
set_option maxRecDepth 100000
section
variable {P:Program} {n:Nat} {ds:List Deferred} {l:Env} {t:Nat} {ty:TypeId} {ps:String} {af:Array Edge} {gd:Option (Nat×Bool)} {C:Nat->Prop} {w0:Y} {A:List Aw}
theorem D.y {lp:Nat} {fn:Operand} {args:List Operand} {ts:Array TypeId} {vs:List Value} {Jz J' Jx:Aw} {A0:List Aw} (hY:Q4 P lp vs.toArray w0 C Jz J' Jx) (hf:ev l fn=F (.func (.yield lp) #[] #[]):=by rfl) (hs:evs l args=F vs:=by rfl) (hk:Pk Jz A A0:=by(repeat (first | exact Pk.hd | apply Pk.tl));first | done | fail):
  Does P n ds ⟨F t,.call {callee:=.value fn,args:=args.toArray,argTypes:=ts},ty,ps,af,gd⟩ (Mem C w0 A) l (fun x:Bool=>Mem C w0 ((bif x then J' else Jx)::A0)) (fun x=>(t,.bool x)::l):=fun a w K' ha hd hw hk'=>by
 have h0:=hw.pk hk;obtain⟨F0,e1,e2,e3⟩:=h0.2;obtain⟨f,tm,asg,bd,hr,hrd⟩:=hY w F0 h0.1 e1 (fun b hb=>e2 b hb);have h1:(args.toArray).map a.eval=vs.toArray:=by rw[List.map_toArray,(ha.evs _ _ hs).2]
 unfold FI;have:(execOp a.eval ⟨F t,.call {callee:=.value fn,args:=args.toArray,argTypes:=ts},ty,ps,af,gd⟩).run P w=.ok (.round lp f tm asg bd) w:=by
  simp[execOp,resolve,Deferred.ofValue,invoke,h1,ha.ev hf,Sem.run_bind,pure,hr]
 rw[this];refine RoundIn.mono hrd fun e w' he=>?_;obtain⟨hx,F',hF',hc⟩:=he;have fin:∀ X:Aw,X.is F' w'->Mem C w0 (X::A0) w':=fun X hX=>by
  refine⟨h0.1.trans hx (fun b hb hf=>(e2 b hf).2.elim (fun h=>by omega) id),F',hX,fun b hb=>⟨(hF' b hb).1,(hF' b hb).2.elim (fun h=>(e2 b h).2) (fun h=>.inl (Nat.le_trans h0.1.size h))⟩,e3.mono (fun b hb=>⟨⟨Nat.lt_of_lt_of_le hb.1.1 hx.size,hb.1.2⟩,fun hf=>(hF' b hf).2.elim hb.2 (fun h=>by have:=hb.1.1;omega)⟩) (fun b hb=>hx.block b hb.1.1 hb.2)⟩
 rcases hc with ⟨rfl,hc⟩ | ⟨rfl,hc⟩
 ·exact⟨_,rfl,hk' true _ w' (fin _ hc) (hd _)⟩
 ·exact⟨_,rfl,hk' false _ w' (fin _ hc) (hd _)⟩
end
theorem Ak5 (v:Value) (w:Y):(Go.method 587 292 v "sigillary/block.isSame").run Tryz.prog w=.ok (340,v) w:=by kernel_rfl
theorem Alk (v:Value) (w:Y):(nilAhead 587 292 v "sigillary/block.isSame").run Tryz.prog w=.ok (F false) w:=by kernel_rfl
theorem Akr (v:Value) (w:Y):(Go.method 587 293 v "sigillary/block.isSame").run Tryz.prog w=.ok (341,v) w:=by kernel_rfl
theorem Akk (v:Value) (w:Y):(nilAhead 587 293 v "sigillary/block.isSame").run Tryz.prog w=.ok (F false) w:=by kernel_rfl
theorem Yy (g:Bg) (w:Y):Calls Tryz.prog 340 #[.agg #[],TS g] w fun e w'=>e=.returned (.bool (decide (g=.dash)))/\Below w.heap.size w w':=by
 refine V.enter _ Tryz.func340 (Mem.start (C:=A5) w) ?_;cases g
 all_goals
  unfold TS
  repeat (first | refine W ?_ | refine R.new fun _ _=>?_)
  refine V.end fun w' h'=>?_;exact⟨rfl,h'.1.below⟩
theorem Yc (g:Bg) (w:Y):Calls Tryz.prog 341 #[.agg #[],TS g] w fun e w'=>e=.returned (.bool (decide (g=.key)))/\Below w.heap.size w w':=by
 refine V.enter _ Tryz.func341 (Mem.start (C:=A5) w) ?_;cases g
 all_goals
  unfold TS
  repeat (first | refine W ?_ | refine R.new fun _ _=>?_)
  refine V.end fun w' h'=>?_;exact⟨rfl,h'.1.below⟩
theorem To (rb:Nat) (col:Int) (U:TypeId) (u:Value) (w:Y):Calls Tryz.prog 190 #[.pointer (F ⟨rb,0,O⟩),I J col,.iface U u] w fun e w'=>∃ q:Nat×Nat×Nat,e=.returned (.func (.func 225) #[] #[.pointer (F ⟨q.1,0,O⟩),.pointer (F ⟨q.2.1,0,O⟩),.pointer (F ⟨q.2.2,0,O⟩)])/\Fr w w' [blk q.1 [.pointer (F ⟨rb,0,O⟩)] 153,blk q.2.1 [I J col] 3,blk q.2.2 [.iface U u] 290]:=by
 refine V.enter _ Tryz.func190 (Mem.start (C:=A5) w) ?_;refine W ?_;refine R.new fun b3 h3=>?_;refine R.new fun b4 h4=>?_;refine R.new fun b5 h5=>?_
 repeat refine W ?_
 refine V.end fun w' h'=>?_;exact⟨(b3,b4,b5),rfl,(h'.sel:Mem A5 w [_,_,_] w').to_fr⟩
abbrev Ig:=D8×List D8×BR
def Ey (es0:List En) (xs:List Ig):List En:=match xs.getLast? with
 | none=>es0
 | some x=>match x.2.2 with
  | .ok _ rest=>rest
  | _=>[]
def enR (Wo:I7) (rb:Nat) (l:List En):Aw:=JB fun es:List D8=>star [E3 rb es,pr (es.map (·.1)=l/\H2 Wo es)]
def enY (Wo:I7) (rb:Nat) (xs:List Ig):Aw:=match xs.getLast? with
 | none=>pr False
 | some x=>match x.2.2 with
  | .ok _ rest=>enR Wo rb rest
  | _=>pr False
theorem Nu (es0:List En) (xs:List Ig) (x:D8) (r:List D8) (t:Tr) (rest:List En):Ey es0 (xs++[(x,r,.ok t rest)])=rest:=by unfold Ey;rw[List.getLast?_concat]
theorem Uy (Wo:I7) (rb:Nat) (xs:List Ig) (x:D8) (r:List D8) (t:Tr) (rest:List En):enY Wo rb (xs++[(x,r,.ok t rest)])=enR Wo rb rest:=by unfold enY;rw[List.getLast?_concat]
theorem Aem (Wo:I7) (rb:Nat) (xs:List Ig) (x:D8) (r:List D8) (no e:Int):enY Wo rb (xs++[(x,r,.bad no e)])=pr False:=by unfold enY;rw[List.getLast?_concat]
theorem Aew (Wo:I7) (rb:Nat) (xs:List Ig) (x:D8) (r:List D8):enY Wo rb (xs++[(x,r,.out)])=pr False:=by unfold enY;rw[List.getLast?_concat]
theorem N9 {Wo:I7} {C:Nat->Prop} {w0 w:Y} {Zz:List Aw} {rb:Nat} {es:List D8} {l:List En} (h:Mem C w0 (E3 rb es::Zz) w) (he:es.map (·.1)=l/\H2 Wo es):Mem C w0 (enR Wo rb l::Zz) w:=Mem.toEx es (Mem.toStar (B:=[_,_]) (Mem.pk (h.pr he) (.tl .hd)))
section
variable (Wo:I7) (es0:List En) (col:Int) (bg:Bg) (step:Nat->En->List En->BR)
structure BAd (pre:List Ig) (x:Ig):Prop where
 at_:Ey es0 pre=x.1.1::x.2.1.map (·.1)
 ok:H2 Wo (x.1::x.2.1)
 col:x.1.1.col=col
 bg:Ck x.1.1.l=bg
 st:x.2.2=step pre.length x.1.1 (x.2.1.map (·.1))
inductive Zw:List Ig->Prop
 | nil:Zw []
 | snoc (pre:List Ig) (x:Ig) (h:Zw pre) (ha:BAd Wo es0 col bg step pre x) (ho:∃ t rest,x.2.2=.ok t rest):Zw (pre++[x])
def Agd (xs:List Ig):Prop:=Zw Wo es0 col bg step xs/\∀ x r,Ey es0 xs=x::r->¬(x.col=col/\Ck x.l=bg)
end
theorem Zw.le {Wo:I7} {es0:List En} {col:Int} {bg:Bg} {step:Nat->En->List En->BR} (hs:∀ i x r t rest,step i x r=.ok t rest->rest.length<=r.length) {xs:List Ig} (h:Zw Wo es0 col bg step xs):(Ey es0 xs).length+xs.length<=es0.length:=by
 induction h with
 | nil=>exact Nat.le_refl _
 | snoc pre x h ha ho ih=>
  obtain⟨t,rest,ho⟩:=ho;obtain⟨y,r,rs⟩:=x;dsimp only at ho;subst ho;rw[Nu,List.length_append,List.length_singleton];have h1:=hs _ _ _ t rest ha.st.symm;rw[ha.at_,List.length_cons] at ih;omega
theorem Ahe {Wo:I7} {es0:List En} {col:Int} {bg:Bg} {step:Nat->En->List En->BR} (hbg:bg=.dash\/bg=.key) (hs:∀ i x r t rest,step i x r=.ok t rest->rest.length<=r.length) (hn:es0.length<=1000000) (rb b3 b4 b5:Nat):
  WV Tryz.prog 225 #[.pointer (F ⟨b3,0,O⟩),.pointer (F ⟨b4,0,O⟩),.pointer (F ⟨b5,0,O⟩)] (fun x:Ig=>[epV x.1]) (fun x=>[E3 rb (x.1::x.2.1)]) (fun xs=>[enY Wo rb xs])
   (fun xs=>[blk b3 [.pointer (F ⟨rb,0,O⟩)] 153,blk b4 [I J col] 3,blk b5 [TS bg] 290,enR Wo rb (Ey es0 xs)]) (fun pre x=>Zw Wo es0 col bg step pre/\BAd Wo es0 col bg step pre x) (Agd Wo es0 col bg step) (fun w G=>Ll Wo w/\BnW Wo G):=by
 refine Jl.of fun lp Jz Jx w G hSt hG hY hM=>?_;obtain⟨hB,hQ⟩:=hSt;refine V.enter _ Tryz.func225 hM ?_;refine V.pre (S':=Mem G w [enR Wo rb es0,blk b3 [.pointer (F ⟨rb,0,O⟩)] 153,blk b4 [I J col] 3,blk b5 [TS bg] 290,Jz []]) ?_ (fun w' h'=>h'.sel);refine V.ex (fun es1=>?_);refine V.star ?_;refine V.prop (p:=es1.map (·.1)=es0/\H2 Wo es1) (fun he1=>?_) (hp:=.tail _ (.head _));refine V.loop (ι:=List Ig×List D8) (fun x=>Zw Wo es0 col bg step x.1/\x.2.map (·.1)=Ey es0 x.1/\H2 Wo x.2) (fun x=>Mem G w ([blk b3 [.pointer (F ⟨rb,0,O⟩)] 153,blk b4 [I J col] 3,blk b5 [TS bg] 290,E3 rb x.2,Jz x.1])) (fun x=>[(0,.func (.yield lp) #[] #[]),(1,.pointer (F ⟨b3,0,O⟩)),(2,.pointer (F ⟨b4,0,O⟩)),(3,.pointer (F ⟨b5,0,O⟩))]) (fun x=>x.2.length) ([],es1) ⟨.nil,he1⟩ (fun w h=>h.sel) ⟨rfl,rfl,rfl,rfl,trivial⟩ ?_;rintro⟨xs,es⟩ ⟨hxs,hes,hok⟩;dsimp only at hes hok;have hle:=hxs.le hs;rw[<- hes,List.length_map] at hle;have fin:∀ (w':Y),(∀ x r,Ey es0 xs=x::r->¬(x.col=col/\Ck x.l=bg))->Mem G w [E3 rb es,blk b3 [.pointer (F ⟨rb,0,O⟩)] 153,blk b4 [I J col] 3,blk b5 [TS bg] 290,Jz xs] w'->itR G w (fun xs=>[blk b3 [.pointer (F ⟨rb,0,O⟩)] 153,blk b4 [I J col] 3,blk b5 [TS bg] 290,enR Wo rb (Ey es0 xs)]) Jz Jx (Agd Wo es0 col bg step) (.returned (.tuple #[])) w':=fun w' hf h=>
  ⟨⟨_,rfl⟩,.inl ⟨xs,⟨hxs,hf⟩,(N9 h ⟨hes,hok⟩).sel⟩⟩
 cases es with
 | nil=>
  repeat refine W ?_
  refine R.c (fun w' h'=>FG rb G w w' _ h' (by simp)) ?_
  repeat (first | refine W ?_ | refine R.new fun _ _=>?_)
  refine V.end fun w' h'=>?_;exact fin w' (fun x r h=>by rw[<- hes] at h;cases h) h'.sel
 | cons x r=>
  rw[List.length_cons] at hle;have hx:=hok x (List.mem_cons_self ..);obtain⟨⟨no,cl,l⟩,A,c⟩:=x;have fin2:∀ (w':Y),¬(cl=col/\Ck l=bg)->Mem G w (star [E3 rb ((⟨no,cl,l⟩,A,c)::r),Jz xs]::[blk b3 [.pointer (F ⟨rb,0,O⟩)] 153,blk b4 [I J col] 3,blk b5 [TS bg] 290]) w'->_:=fun w' hf h=>fin w' (fun x r h=>by rw[<- hes] at h;cases h;exact hf) (Mem.star h).sel;refine V.pre (S':=Mem G w (star [E3 rb ((⟨no,cl,l⟩,A,c)::r),Jz xs]::[blk b3 [.pointer (F ⟨rb,0,O⟩)] 153,blk b4 [I J col] 3,blk b5 [TS bg] 290])) ?_ (fun w' h'=>Mem.toStar (B:=[_,_]) h'.sel)
  repeat refine W ?_
  refine R.c (fun w' h'=>EQ rb (⟨no,cl,l⟩,A,c) r G w w' _ (Mem.star (B:=[E3 rb ((⟨no,cl,l⟩,A,c)::r),Jz xs]) (A:=[]) h'.sel) (by simp) (by rw[List.length_cons];omega)) ?_;iterate 3 refine W ?_
  refine R.new fun be hbe=>?_;iterate 4 refine W ?_
  by_cases e:cl=col
  ·subst e;obtain⟨rs,hrs⟩:∃ z,step xs.length ⟨no,cl,l⟩ (r.map (·.1))=z:=⟨_,rfl⟩
   have hy:=fun(hb:Ck l=bg)=>hY xs ((⟨no,cl,l⟩,A,c),r,rs) ⟨hxs,⟨hes.symm,hok,rfl,hb,hrs.symm⟩⟩;obtain⟨vb,hvb⟩:∃ v,v=decide (Ck l=bg):=⟨_,rfl⟩
   refine Zz.on (Mem G w [blk be (Oi (⟨no,cl,l⟩,A,c)) 219,blk b4 [I J cl] 3,blk b5 [TS bg] 290]) ?_;rcases hbg with rfl | rfl;all_goals
    repeat refine Wy ?_
    refine Zz.c (fun w' h'=>Ip (PcO Wo) no cl A c l w' (hx.tks.to fun b o v hb hv=>⟨(hB.ext hQ h'.1).cell hv hb.2,hb⟩)) ?_
    repeat refine Wy ?_
    first
     | refine Zz.do (hd:=by exact D.ci (fun w' h'=>Yy (Ck l) w') (Ak5 _) (Alk _)) (h:=fun _=>?_)
     | refine Zz.do (hd:=by exact D.ci (fun w' h'=>Yc (Ck l) w') (Akr _) (Akk _)) (h:=fun _=>?_)
    repeat refine Wy ?_
    refine Zz.re 32 (v':=.bool (!vb)) (by first | exact congrArg (fun b=>Value.bool (!b)) hvb.symm | done) ?_;cases vb
    rotate_left
    ·have eb:=of_decide_eq_true hvb.symm;have hy:=hy eb
     repeat refine Wy ?_
     refine Zz.do (hd:=by exact D.y (Jz:=star [E3 rb ((⟨no,cl,l⟩,A,c)::r),Jz xs]) (J':=star [enY Wo rb (xs++[((⟨no,cl,l⟩,A,c),r,rs)]),Jz (xs++[((⟨no,cl,l⟩,A,c),r,rs)])]) (Jx:=Jx (xs++[((⟨no,cl,l⟩,A,c),r,rs)])) hy) (h:=fun z=>?_);cases z
     ·refine Zz.off (fun w' h'=>h'.sel) ?_
      repeat refine W ?_
      refine V.end fun w' h'=>?_;exact⟨⟨_,rfl⟩,.inr ⟨_,h'.sel⟩⟩
     ·refine Zz.off (fun w' h'=>h'.sel) ?_
      repeat refine W ?_
      refine V.star ?_;cases rs with
      | out=>rw[Aew];exact V.prop (p:=False) (fun h=>h.elim)
      | bad n2 e2=>rw[Aem];exact V.prop (p:=False) (fun h=>h.elim)
      | ok t rest=>
       rw[Uy];refine V.ex (fun es2=>?_);refine V.star ?_;refine V.prop (p:=es2.map (·.1)=rest/\H2 Wo es2) (fun he2=>?_) (hp:=.tail _ (.head _));have hl2:=hs _ _ _ t rest hrs;rw[<- he2.1,List.length_map,List.length_map] at hl2;exact V.again (xs++[((⟨no,cl,l⟩,A,c),r,.ok t rest)],es2) rfl ⟨.snoc xs ((⟨no,cl,l⟩,A,c),r,.ok t rest) hxs ⟨hes.symm,hok,rfl,eb,hrs.symm⟩ ⟨t,rest,rfl⟩,by rw[Nu];exact he2.1,he2.2⟩ (by dsimp only;rw[List.length_cons];omega)
    ·have eb:=of_decide_eq_false hvb.symm;refine Zz.off (fun w' h'=>h'.sel) ?_
     repeat refine W ?_
     refine V.end fun w' h'=>?_;exact fin2 w' (fun h=>eb h.2) h'.sel
  ·repeat refine W ?_
   refine R.re 22 (v:=.bool (cl !=col)) (v':=.bool true) (by simp[e]) ?_
   repeat refine W ?_
   refine V.end fun w' h'=>?_;exact fin2 w' (fun h=>e h.1) h'.sel
end
section
theorem suffix:∀ n,(∀ m d x r t rest,AF n m d (x::r)=.ok t rest->rest<:+r)/\(∀ no m d l t rest,belowB n no m d l=.ok t rest->rest<:+l)∧
  (∀ d x r t rest,B2 n d x r=.ok t rest->rest<:+r)/\(∀ col d l acc t rest,BK n col d l acc=.ok t rest->rest<:+l)∧
  (∀ d x r acc t rest,Ck x.l=.dash->BK n x.col d (x::r) acc=.ok t rest->rest<:+r)∧
  (∀ d x r t rest,B8 n d x r=.ok t rest->rest<:+r)/\(∀ col d l ks ts t rest,AL n col d l ks ts=.ok t rest->rest<:+l)∧
  (∀ d x r ks ts t rest,Ck x.l=.key->AL n x.col d (x::r) ks ts=.ok t rest->rest<:+r)
 | 0=>by
  refine⟨?_,?_,?_,?_,?_,?_,?_,?_⟩<;>intros<;>rename_i h<;>simp[AF,belowB,B2,BK,B8,AL] at h
 | n+1=>by
  obtain⟨hN,hB,hI,hS,hS2,hP,hD,hD2⟩:=suffix n;have sq:∀ d x r acc t rest,(B2 n (d+1) x r).bind (fun t rest=>BK n x.col d rest (acc++[t]))=.ok t rest->rest<:+r:=fun d x r acc t rest h=>by
   cases hi:B2 n (d+1) x r with
   | ok t1 r1=>rw[hi] at h;simp only[BR.bind] at h;exact(hS _ _ _ _ _ _ h).trans (hI _ _ _ _ _ hi)
   | bad no e=>rw[hi] at h;simp only[BR.bind] at h;cases h
   | out=>rw[hi] at h;simp only[BR.bind] at h;cases h
  have dq:∀ d x r ks ts t rest,(if (EA x.l).2≠0 then BR.bad x.no (EA x.l).2 else (B8 n (d+1) x r).bind (fun t rest=>AL n x.col d rest (ks++[(EA x.l).1]) (ts++[t])))=.ok t rest->rest<:+r:=fun d x r ks ts t rest h=>by
   split at h
   ·cases h
   ·cases hi:B8 n (d+1) x r with
    | ok t1 r1=>rw[hi] at h;simp only[BR.bind] at h;exact(hD _ _ _ _ _ _ _ h).trans (hP _ _ _ _ _ hi)
    | bad no e=>rw[hi] at h;simp only[BR.bind] at h;cases h
    | out=>rw[hi] at h;simp only[BR.bind] at h;cases h
  refine⟨fun m d x r t rest h=>?_,fun no m d l t rest h=>?_,fun d x r t rest h=>?_,fun col d l acc t rest h=>?_,fun d x r acc t rest hb h=>?_,fun d x r t rest h=>?_,fun col d l ks ts t rest h=>?_,fun d x r ks ts t rest hb h=>?_⟩
  ·rw[AF] at h
   (try simp only at h)
   split at h
   ·cases h
   ·cases hb:Ck x.l with
    | dash=>rw[hb] at h;exact hS2 _ _ _ _ _ _ hb h
    | key=>rw[hb] at h;exact hD2 _ _ _ _ _ _ _ hb h
    | name s=>
     rw[hb] at h;obtain⟨t',h',_⟩:=IQ h;exact hB _ _ _ _ _ _ h'
    | plain=>rw[hb] at h;rw[(IN h).1];exact List.suffix_refl _
  ·cases l with
   | nil=>
    rw[belowB] at h
    (try simp only at h)
    split at h
    ·cases h
    ·injection h with _ h;rw[<- h];exact List.suffix_refl _
   | cons x r=>
    rw[belowB] at h
    (try simp only at h)
    split at h
    ·exact(hN _ _ _ _ _ _ h).trans (List.suffix_cons _ _)
    ·split at h
     ·cases h
     ·injection h with _ h;rw[<- h];exact List.suffix_refl _
  ·rw[B2] at h;split at h
   ·exact hB _ _ _ _ _ _ h
   ·exact hN _ _ _ _ _ _ h
  ·cases l with
   | nil=>rw[BK] at h;(try simp only at h);injection h with _ h;rw[<- h];exact List.suffix_refl _
   | cons x r=>
    rw[BK] at h
    (try simp only at h)
    split at h
    ·rename_i hx;rw[<- hx.1] at h;exact(sq _ _ _ _ _ _ h).trans (List.suffix_cons _ _)
    ·rw[(GV h).2.1];exact List.suffix_refl _
  ·rw[BK] at h
   (try simp only at h)
   rw[if_pos ⟨trivial,hb⟩] at h;exact sq _ _ _ _ _ _ h
  ·rw[B8] at h;split at h
   ·obtain⟨t',h',_⟩:=IQ h;exact hB _ _ _ _ _ _ h'
   ·split at h
    ·exact hB _ _ _ _ _ _ h
    ·rw[(IN h).1];exact List.suffix_refl _
  ·cases l with
   | nil=>rw[AL] at h;(try simp only at h);injection h with _ h;rw[<- h];exact List.suffix_refl _
   | cons x r=>
    rw[AL] at h
    (try simp only at h)
    split at h
    ·rename_i hx;rw[<- hx.1] at h;exact(dq _ _ _ _ _ _ _ h).trans (List.suffix_cons _ _)
    ·rw[(GV h).2.1];exact List.suffix_refl _
  ·rw[AL] at h
   (try simp only at h)
   rw[if_pos ⟨trivial,hb⟩] at h;exact dq _ _ _ _ _ _ _ h
def E4 (l:List En):Nat:=(l.map fun x=>x.l.length+1).sum
theorem AG (x:En) (l:List En):E4 (x::l)=x.l.length+1+E4 l:=by unfold E4;simp
theorem Hc {r l:List En} (h:r<:+l):E4 r<=E4 l:=by
 obtain⟨p,rfl⟩:=h;unfold E4;rw[List.map_append,List.sum_append];omega
def Full (l:List En):Prop:=∀ x∈l,x.l≠[]
theorem Af5 {l:List C8} (h:Ck l=.key):2<=l.length:=by
 unfold Ck at h;split at h
 ·cases h
 ·split at h
  ·rename_i h2;have h3:=h2.2;unfold Zt at h3;rcases Nat.lt_or_ge 1 l.length with h4 | h4
   ·exact h4
   ·rw[List.getD,List.getElem?_eq_none h4] at h3;exact absurd h3 (by decide)
  ·split at h<;>cases h
end
section
set_option maxHeartbeats 8000000
set_option maxRecDepth 100000
abbrev Bv (es:List D8):List En:=es.map (·.1)
theorem G6 (l:List En):l.length<=E4 l:=by
 induction l with
 | nil=>exact Nat.zero_le _
 | cons x r ih=>rw[AG,List.length_cons];omega
def Yk (Wo:I7) (n:Nat):Prop:=∀ (m:Int) (d:Nat) (es:List D8),H2 Wo es->es≠[]->d<=1000->4*E4 (Bv es)+2<=n->BkC Wo es 111 [I J m,I J d] (AF n m d (Bv es))
def Uo (Wo:I7) (n:Nat):Prop:=∀ (no col m:Int) (A:Option Addr) (lf cf d:Nat) (es:List D8),H2 Wo es->d<=1000->4*E4 (Bv es)+3<=n->BkC Wo es 195 [enV no col A lf cf,I J m,I J d] (belowB n no m d (Bv es))
section
variable {Wo:I7} {n:Nat}
theorem Wx (hn1:n<=1000000) (hN:Yk Wo n):Uo Wo (n+1):=by
 intro no col m A lf cf d es hes hd hn rb w hB Fz hX hF hQ;have hle:=G6 (Bv es);rw[List.length_map] at hle;have hsome:=fun x r (h:es=x::r)=>hN m d (x::r) (h▸hes) (by simp) hd (by subst h;omega) rb;refine V.enter _ Tryz.func195 (Mem.startX hX hF) ?_
 repeat (first | refine W ?_ | refine R.new fun _ _=>?_)
 cases es with
 | nil=>
  rw[show belowB (n+1) no m d (Bv [])=if 24<d then .bad no 73 else .ok Ei [] by show belowB (n+1) no m d []=_;rw[belowB]];refine R.c (fun w' h'=>FG rb Fz w w' _ h' (by simp)) ?_
  repeat (first | refine W ?_ | refine R.new fun _ _=>?_)
  refine V.ifp (fun h=>?_) (fun h=>?_)
  ·rw[if_pos (show 24<d by omega)]
   repeat refine W ?_
   refine R.c (fun w' h'=>Cb no col A lf cf 73 w') ?_
   repeat refine W ?_
   refine V.eA fun w' h'=>?_;exact⟨(GE AJ,[]),rfl,EP h'.sel (Nat.zero_le _)⟩
  ·rw[if_neg (show ¬24<d by omega)]
   repeat refine W ?_
   refine V.eA fun w' h'=>?_;exact⟨(GE AJ,[]),rfl,PB (Mem.sel (Mem.tree0 (k:=0) (nm:=⟨#[]⟩) (x:=AJ) h')) ⟨rfl,hes⟩⟩
 | cons x r=>
  have hsome:=hsome x r rfl;rw[List.length_cons] at hle;refine R.c (fun w' h'=>EQ rb x r Fz w w' _ h' (by simp) (by rw[List.length_cons];omega)) ?_;obtain⟨⟨no2,cl,l⟩,A2,c2⟩:=x;rw[show belowB (n+1) no m d (Bv ((⟨no2,cl,l⟩,A2,c2)::r))=if m<cl then AF n m d (Bv ((⟨no2,cl,l⟩,A2,c2)::r)) else if 24<d then .bad no 73 else .ok Ei (Bv ((⟨no2,cl,l⟩,A2,c2)::r)) by show belowB (n+1) no m d (⟨no2,cl,l⟩::Bv r)=_;rw[belowB];rfl];obtain⟨res,hres⟩:∃ z,AF n m d (Bv ((⟨no2,cl,l⟩,A2,c2)::r))=z:=⟨_,rfl⟩
  rw[hres] at hsome |-
  repeat (first | refine W ?_ | refine R.new fun _ _=>?_)
  refine V.ifp (fun h=>?_) (fun h=>?_)
  ·rw[if_pos h]
   repeat refine W ?_
   refine R.cq (fun w' h'=>hsome w' (hB.ext hQ h'.1)) (fun G hG=>hB.of hQ G hG) (fun y=>?_)
   repeat refine W ?_
   refine V.eA fun w' h'=>?_;exact⟨y,rfl,Mem.toW h'.sel⟩
  ·rw[if_neg h]
   repeat refine W ?_
   refine V.ifp (fun h=>?_) (fun h=>?_)
   ·rw[if_pos (show 24<d by omega)]
    repeat refine W ?_
    refine R.c (fun w' h'=>Cb no col A lf cf 73 w') ?_
    repeat refine W ?_
    refine V.eA fun w' h'=>?_;exact⟨(GE AJ,(⟨no2,cl,l⟩,A2,c2)::r),rfl,EP h'.sel (by rw[List.length_cons];omega)⟩
   ·rw[if_neg (show ¬24<d by omega)]
    repeat refine W ?_
    refine V.eA fun w' h'=>?_;exact⟨(GE AJ,(⟨no2,cl,l⟩,A2,c2)::r),rfl,PB (Mem.sel (Mem.tree0 (k:=0) (nm:=⟨#[]⟩) (x:=AJ) h')) ⟨rfl,hes⟩⟩
theorem Aec {C:Nat->Prop} {w0 w:Y} {Zz:List Aw} {y:TY} {t:Tr} (h:Mem C w0 Zz w) (hm:A9 (AM y) t∈Zz):y.1=t.kind/\y.2.1=t.nm:=by
 obtain⟨Fz,hF,_⟩:=h.has hm;obtain⟨k,nm,x,ks,ts⟩:=t;have hF:D7 w Fz (.mk k nm x ks ts) (AM y):=hF;obtain⟨KA,kc,A,c,e⟩:=hF.form;unfold AM at e;injection e with e0 e;injection e with e1 e;injection e0 with _ e0;injection e1 with e1;exact⟨e0,e1⟩
theorem Oe (hn1:n<=1000000) (hB0:Uo Wo n) (no col m:Int) (A:Option Addr) (lf cf d:Nat) (s:List UInt8) (es:List D8) (hes:H2 Wo es) (hd:d<=1000) (hn:4*E4 (Bv es)+3<=n):
  BkC Wo es 154 [enV no col A lf cf,Q ⟨s.toArray⟩,I J m,I J d] (G9 no s (belowB n no m d (Bv es))):=by
 intro rb w hB Fz hX hF hQ;have hC:=hB0 no col m A lf cf d es hes hd hn rb;have hlen:∀ t rest,belowB n no m d (Bv es)=.ok t rest->rest.length<=1000000:=fun t rest h=>by
  have h1:=((suffix n).2.1 _ _ _ _ _ _ h).length_le;have h2:=G6 (Bv es);omega
 generalize belowB n no m d (Bv es)=res at hC hlen |-;refine V.enter _ Tryz.func154 (Mem.startX hX hF) ?_
 repeat (first | refine W ?_ | refine R.new fun _ _=>?_)
 refine R.cq (fun w' h'=>hC w' (hB.ext hQ h'.1)) (fun G hG=>hB.of hQ G hG) (fun y=>?_);cases res with
 | out=>
  unfold Uq;refine R.know (p:=False) (fun w' h'=>let ⟨_,h1,_⟩:=h'.has (X:=pr False) (by simp);h1) (fun h=>h.elim)
 | bad no2 e2=>
  unfold Uq brV Zr Oq
  repeat (first | refine W ?_ | refine R.new fun _ _=>?_)
  refine V.eA fun w' h'=>?_;exact⟨((y.1.1,⟨s.toArray⟩,y.1.2.2),y.2),rfl,Mem.toW h'.sel⟩
 | ok t rest=>
  unfold Uq brV Zr;iterate 3 refine W ?_
  refine R.new fun b12 h12=>?_;iterate 3 refine W ?_
  refine V.us (B:=[E3 rb y.2,A9 (AM y.1) t,pr (Bv y.2=rest/\H2 Wo y.2)]) ?_;refine V.know (fun w' h'=>Aec (y:=y.1) (t:=t) h' (by simp)) (fun hy=>?_);refine V.prop (p:=Bv y.2=rest/\H2 Wo y.2) (fun hp=>?_) (hp:=.tail _ (.tail _ (.head _)));have hl2:=hlen t rest rfl;rw[<- hp.1,List.length_map] at hl2;have hnm:(!y.1.2.1.toList.isEmpty)=decide (t.nm≠⟨#[]⟩):=by
   rw[hy.2,ByteArray.toList_eq];obtain⟨⟨l⟩⟩:=t.nm;cases l with
   | nil=>rfl
   | cons a r=>simp
  unfold G9;dsimp only
  repeat refine W ?_
  by_cases h3:t.kind=3
  ·rw[if_pos (.inl h3)];refine R.re 28 (v:=.bool (y.1.1==3)) (v':=.bool true) (by rw[hy.1,h3];rfl) ?_
   repeat refine W ?_
   refine R.c (fun w' h'=>Cb no col A lf cf 93 w') ?_
   repeat refine W ?_
   refine V.eA fun w' h'=>?_;exact⟨((y.1.1,⟨s.toArray⟩,y.1.2.2),y.2),rfl,EP (Wo:=Wo) (no:=no) (e:=93) h'.sel hl2⟩
  ·refine R.re 28 (v:=.bool (y.1.1==3)) (v':=.bool false) (by rw[hy.1];simp[h3]) ?_
   repeat refine W ?_
   by_cases h4:t.nm=⟨#[]⟩
   ·rw[if_neg (not_or.2 ⟨h3,fun h=>h h4⟩)];refine V.re 33 (v:=.bool (!y.1.2.1.toList.isEmpty)) (v':=.bool false) (by rw[hnm];simp[h4]) ?_
    repeat refine W ?_
    refine V.eA fun w' h'=>?_;have h1:Mem Fz w [A9 (AM y.1) t,E3 rb y.2] w':=h'.sel;exact⟨((y.1.1,⟨s.toArray⟩,y.1.2.2),y.2),rfl,PB (Mem.sel (Agx (s:=s) h1)) hp⟩
   ·rw[if_pos (.inr h4)];refine V.re 33 (v:=.bool (!y.1.2.1.toList.isEmpty)) (v':=.bool true) (by rw[hnm];simp[h4]) ?_
    repeat refine W ?_
    refine R.c (fun w' h'=>Cb no col A lf cf 93 w') ?_
    repeat refine W ?_
    refine V.eA fun w' h'=>?_;exact⟨((y.1.1,⟨s.toArray⟩,y.1.2.2),y.2),rfl,EP (Wo:=Wo) (no:=no) (e:=93) h'.sel hl2⟩
end
end
section
set_option maxHeartbeats 8000000
set_option maxRecDepth 100000
theorem Sd (ts:List Tr) (t:Tr):Ad.deepTs (ts++[t])=max (Ad.deepTs ts) (Ad t):=by
 induction ts with
 | nil=>rw[List.nil_append,Am,Ap];omega
 | cons u r ih=>rw[List.cons_append,Am,Am,ih];omega
theorem Tu (ts:List Tr) (i:Nat):Ad.deepTs (ts.take i)<=Ad.deepTs ts:=by
 induction ts generalizing i with
 | nil=>rw[List.take_nil];exact Nat.le_refl _
 | cons u r ih=>
  cases i with
  | zero=>rw[List.take_zero,Ap];exact Nat.zero_le _
  | succ i=>rw[List.take_succ_cons,Am,Am];have:=ih i;omega
theorem M8:∀ (ts:List Tr) (i:Nat) (t:Tr),ts[i]? =F t->Ad t<=Ad.deepTs ts
 | u::r,0,t,h=>by cases h;rw[Am];omega
 | u::r,i+1,t,h=>by have:=M8 r i t h;rw[Am];omega
def Afe (t:Tr):Prop:=∀ (vs:List Value) (S:Nat->Prop) (w:Y),D7 w S t vs->Sm 1000000 t->Ad t<=1000000->Calls Tryz.prog 197 #[.agg vs.toArray] w fun e w'=>e=.returned (I J (Ad t))/\Below w.heap.size w w'
theorem Ac9 (k0:Int) (nm:ByteArray) (x:Sc) (ks:List Sc) (ts:List Tr) (hk:∀ (i:Nat) (t:Tr),ts[i]? =F t->Afe t):Afe (.mk k0 nm x ks ts):=by
 intro vs S w h hsm hdp;unfold D7 at h;obtain⟨KA,kc,A,c,rfl,hks,hts⟩:=h;unfold Sm at hsm;obtain⟨_,hn,hsm⟩:=hsm;rw[show Ad (.mk k0 nm x ks ts)=Ad.deepTs ts+1 by rw[Ad]] at hdp |-;refine V.enter _ Tryz.func197 (Mem.start (C:=A5) w) ?_
 repeat (first | refine W ?_ | refine R.new fun _ _=>?_)
 refine V.loop (fun i=>i<=ts.length) (fun i=>Mem A5 w []) (fun i=>[(9,I J i),(8,I J ts.length),(7,Z A ts.length c),(3,I J (Ad.deepTs (ts.take i)))]) (ts.length - ·) 0 (Nat.zero_le _) (fun w h=>h.sel) ⟨rfl,rfl,rfl,by rw[List.take_zero,Ap];rfl,trivial⟩ ?_;intro i hi
 repeat refine W ?_
 refine V.ifp (fun hlt=>?_) (fun hge=>?_)
 ·have hlt:i<ts.length:=by omega
  obtain⟨t,ht⟩:∃ t,ts[i]? =F t:=⟨_,List.getElem?_eq_getElem hlt⟩
  obtain⟨b,o,us,rfl,hSb,hc,htr⟩:=TsV.get hts ht;rw[Nat.zero_add] at hc;have hd1:=M8 ts i t ht;have hd2:=Tu ts i;have hsm2:Sm 1000000 t:=by
   have:=Aa9 ts i hlt hsm
   rwa [List.getD_eq_getElem?_getD,ht] at this
  have hu7:=htr.len.1;obtain⟨y,rfl,_⟩:=htr.y
  repeat refine W ?_
  refine R.ix hlt ?_;refine R.lo (m:=7) 0 hc ?_
  repeat (first | refine W ?_ | refine R.new fun _ _=>?_)
  refine R.c (fun w' h'=>hk i t ht (AM y) S w' (D7.to (fun b o v hb hv=>⟨h'.1.cell hv (fun e=>e),hb⟩) _ _ htr) hsm2 (by omega)) ?_
  repeat refine W ?_
  exact V.again (i+1) rfl hlt (hl:=⟨rfl,rfl,rfl,by rw[List.take_add_one,ht,show(F t).toList=[t] from rfl,Sd];exact congrArg (fun z:Int=>F (Value.int .i64 z)) (by omega),trivial⟩)
 ·have he:i=ts.length:=by omega
  subst he;rw[List.take_length]
  repeat refine W ?_
  refine V.end fun w' h'=>?_;exact⟨rfl,h'.1.below⟩
mutual
theorem WX:∀ t:Tr,Afe t
 | .mk k nm x ks ts=>Ac9 k nm x ks ts (Xn ts)
theorem Xn:∀ (ts:List Tr) (i:Nat) (t:Tr),ts[i]? =F t->Afe t
 | u::r,0,t,h=>by
  have:u=t:=by simpa using h
  subst this;exact WX u
 | u::r,i+1,t,h=>Xn r i t h
end
section
variable {Wo:I7}
theorem MI (no col:Int) (A:Option Addr) (lf cf:Nat) (l:List C8) (A2:Option Addr) (c2 d:Nat) (es:List D8) (hes:H2 Wo es) (hT:Hu Wo.wB (PcO Wo) A2 l) (hlen:l.length<=1000000) (hsm:∀ t∈l,t.str.length<=1000000) (hcap:l.length<=c2) (hd:d<=1000) (hn:es.length<=1000000):
  BkC Wo es 155 [enV no col A lf cf,Z A2 l.length c2,I J d] (C9 no l d (Bv es)):=by
 intro rb w hB Fz hX hF hQ;have hW:=fun w' (hb:Ll Wo w')=>TX A2 c2 l w' (hb.rd hT hlen hsm) hb.err hcap;obtain⟨⟨t,er⟩,hr⟩:∃ r,Bl (IT l)=r:=⟨_,rfl⟩
 have hok:er=0->Sm 1000000 t/\Ad t<=24:=fun e=>by
  subst e;obtain⟨h1,h2⟩:=NE hr;exact⟨Ahb h1 (by rw[VQ];exact hlen),h2⟩
 rw[show l.map Fm=IT l from rfl,hr] at hW;rw[show C9 no l d (Bv es)=if 24<d then .bad no 73 else if er≠0 then .bad no er else if 24<Ad t+d - 1 then .bad no 73 else .ok t (Bv es) by unfold C9;rw[hr]];have h1:=CL t;refine V.enter _ Tryz.func155 (Mem.startX hX hF) ?_
 repeat (first | refine W ?_ | refine R.new fun _ _=>?_)
 refine V.ifp (fun h=>?_) (fun h=>?_)
 ·rw[if_pos (show 24<d by omega)]
  repeat refine W ?_
  refine R.c (fun w' h'=>Cb no col A lf cf 73 w') ?_
  repeat refine W ?_
  refine V.eA fun w' h'=>?_;exact⟨(GE AJ,es),rfl,EP h'.sel hn⟩
 ·rw[if_neg (show ¬24<d by omega)]
  repeat refine W ?_
  refine R.cf (fun w' h'=>hW w' (hB.ext hQ h'.1)) (fun y=>?_)
  repeat (first | refine W ?_ | refine R.new fun _ _=>?_)
  by_cases he:er=0
  ·obtain⟨hsm2,hdp⟩:=hok he;subst he;rw[if_neg (fun h=>h rfl)]
   repeat refine W ?_
   refine R.c (fun w' h'=>let ⟨F',hF',_⟩:=h'.has (X:=A9 (AM y) t) (by simp);WX t (AM y) F' w' hF' hsm2 (by omega)) ?_
   repeat refine W ?_
   refine V.ifp (fun h=>?_) (fun h=>?_)
   ·rw[if_pos (show 24<Ad t+d - 1 by omega)]
    repeat refine W ?_
    refine R.c (fun w' h'=>Cb no col A lf cf 73 w') ?_
    repeat refine W ?_
    refine V.eA fun w' h'=>?_;exact⟨(GE AJ,es),rfl,EP h'.sel hn⟩
   ·rw[if_neg (show ¬24<Ad t+d - 1 by omega)]
    repeat refine W ?_
    refine V.eA fun w' h'=>?_;exact⟨(y,es),rfl,PB h'.sel ⟨rfl,hes⟩⟩
  ·rw[if_pos he];refine R.re 24 (v:=.bool (er==0)) (v':=.bool false) (by simp[he]) ?_
   repeat refine W ?_
   refine V.re 33 (v:=.bool (er !=0)) (v':=.bool true) (by simp[he]) ?_
   repeat refine W ?_
   refine R.c (fun w' h'=>Cb no col A lf cf er w') ?_
   repeat refine W ?_
   refine V.eA fun w' h'=>?_;exact⟨(GE AJ,es),rfl,EP h'.sel hn⟩
end
end
end Go.Proofs.YtdpppepmkeinaaaGreatDoor
