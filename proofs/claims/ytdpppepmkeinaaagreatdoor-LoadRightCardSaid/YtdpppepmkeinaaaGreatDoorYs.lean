/- What is proved: a part of the walk of the program and of its plain laws; no condition beside those that each theorem names. -/
import Derived.Test.YtdpppepmkeinaaaGreatDoorYr
import Derived.Test.YtdpppepmkeinaaaGreatDoorYp
import Derived.Test.YtdpppepmkeinaaaGreatDoorYh
import Derived.Test.YtdpppepmkeinaaaGreatDoorYa
import Derived.Deep.RegionHeld3
import Derived.Stop.RegionWithIn
namespace Go.Proofs.YtdpppepmkeinaaaGreatDoor
open Go Go.RowKit Go.Lib
open Go.Value renaming int->I,string->Q,slice->Z
open Go.IntKind renaming i64->J
open Option renaming none->O,some->F
open _root_.Go renaming World->Y
set_option linter.unusedSimpArgs false
set_option linter.unusedVariables false
set_option linter.unusedSectionVars false
section
set_option maxHeartbeats 32000000
set_option maxRecDepth 100000
section
variable {P:Program} {n:Nat} {ds:List Deferred} {ops:Array Oper} {K:Act->Y->Prop} {i:Nat} {T pl pend:List Nat} {l:Env} {Zf S:Y->Prop}
 {t:Nat} {ty:TypeId} {ps:String} {af:Array Edge} {gd:Option (Nat×Bool)} {C:Nat->Prop} {w0:Y} {A A':List Aj}
theorem Zz.now {ι:Type} {o:Oper} {Si:ι->Y->Prop} {li:ι->Env} (ho:Aw ops.toList i=F o:=by rfl) (he:Does P n ds o S l Si li) (h:∀ x,Rz P n ds true ops K T pl pend Zf (Si x) (li x)) (hp:∀ x w,Si x w->Zf w:=by exact fun x w h=>h.sel) (hg:Cv ops.toList l o.guard=F true:=by rfl) (hr:(Region.ready .any ops (lst ops (i::(pl++T)))==[i])=true:=by kernel_rfl):Rz P n ds true ops K T (i::pl) pend Zf S l:=by
 intro hok;obtain⟨hok',o',ho',hd⟩:=Oo hok;rw[DB,Array.getElem?_toList] at ho;rw[ho] at ho';cases ho'
 have h:=fun x=>h x hok';have hr:=eq_of_beq hr;dsimp only at h |-;intro Rs hRs a w ha hw;show D6 P .any ops K (Tm P ops Rs pend) ((pl++T).length+1) (lst ops (i::(pl++T))) a w;unfold K0 at hok;rw[Bool.and_eq_true] at hok;obtain⟨hcn,_,_,_⟩:=KF hok.1 ho;refine⟨(fun h0=>by rw[hr] at h0;cases h0),?_⟩;rw[hr];intro j hj;obtain rfl:j=i:=by simpa using hj
 unfold K5;rw[ho];dsimp only
 rw[BY ha hg,if_pos rfl];refine he a w _ ha (ha.addl hd) hw (fun x v w' hs hk=>?_);have:=h x Rs hRs _ w' hk hs;rw[<- Ef hcn] at this;exact⟨fun k hk _=>hRs k hk w' (hp x w' hs),this⟩
theorem D.ld {x:Operand} {tt bt:TypeId} {b o m:Nat} {g:Bool} {v:Value} {cs:List Value} (hx:ev l x=F (.pointer (F ⟨b,o,O⟩)):=by rfl) (hb:blk b cs bt∈A:=by(repeat (first | exact List.Mem.head _ | apply List.Mem.tail));first | done | fail) (ht:∀ w,(isAgg tt).run P w=.ok g w:=by intro w;simp;(try rfl);first | done | fail) (hs:∀ w,(sizeOf tt).run P w=.ok m w:=by intro w;simp;(try rfl);first | done | fail) (hv:Zz g m (cs.drop o)=F v:=by rfl):
  Does P n ds ⟨F t,.load tt x,ty,ps,af,gd⟩ (Mem C w0 A) l (fun _:Unit=>Mem C w0 A) (fun _=>(t,v)::l):=fun a w K' ha hd hw hk=>by
 have h1:=(Cs.of_blk (hw.blk hb)).drop o;rw[Nat.zero_add] at h1;unfold Eo;rw[run_load hx ha (Fu h1 hv (ht w) (hs w))];exact hk () _ w hw (hd _)
end
section
variable {Wo:Gg} {n:Nat}
theorem YV (hn1:n<=1000000) (hB0:∀ m,m<n->R4 Wo m) (hN:∀ m,m<n->Wu Wo m) (col:Int) (d:Nat) (es:List Cn) (hes:FM Wo es) (hd:d<=24) (hn:4*Ee (AE es)+1<=n):BkC Wo es 150 [I J col,I J d] (BW n col d (AE es) []):=by
 intro rb w hB Fz hX hF hQ;have hle:=EH (AE es);rw[List.length_map] at hle;have hR:=Ajd col d;refine V.enter _ Tryz.func150 (Mem.startX hX hF) ?_;refine W ?_;refine R.new fun b3 h3=>?_;refine R.new fun b5 h5=>?_;refine R.new fun b6 h6=>?_;refine R.new fun b7 h7=>?_
 repeat refine W ?_
 refine R.new fun b8 h8=>?_
 repeat refine W ?_
 refine R.cf (fun w' h'=>Py rb col _ _ w') (fun q=>?_);refine R.z ?_;have hI:=Afs (Wo:=Wo) (es0:=AE es) (col:=col) (bg:=.dash) (step:=X1 (fun m x r=>BB m (d+1) x r) n) (.inl rfl) (fun i x r t rest h=>(hR.mu _ _ _ t rest h).length_le) (by rw[List.length_map];omega) rb q.1 q.2.1 q.2.2;refine V.range hI (fun pre=>[blk b3 [.pointer (F ⟨rb,0,O⟩)] 153,blk b5 [I J d] 3,Sh b6,blk b7 [.nilIface] 61,Hf fun z=>star (sqZ b8 pre z)])
  (fun co pre=>[Hf fun u:(TY×List Cn)×Int×Int=>star [pr (co=.ret/\BW n col d (AE es) []=.bad u.2.1 u.2.2/\u.1.2.length<=1000000),blk b6 (As u.1.1) 53,blk b7 [MC u.2.1 u.2.2] 61,Dq rb u.1.2]])
  (fun w' h=>?_) (fun w1 w2 G h hb hG=>⟨hB.ext hQ (h.1.trans (AI.of_below (C:=Fz) hb) (fun _ _ e=>e)),hB.of hQ G hG⟩) (fun r' pre x Wb C' T T' Rl hadm hx hC hmid=>?_) (fun D xs hfin=>?_) (fun D co xs=>?_)
 ·have h1:=KP (Mem.sel h:Mem Fz w (Dq rb es::[blk q.1 [.pointer (F ⟨rb,0,O⟩)] 153,blk q.2.1 [I J col] 3,blk q.2.2 [Pw .dash] 290,blk b3 [.pointer (F ⟨rb,0,O⟩)] 153,blk b5 [I J d] 3,Sh b6,blk b7 [.nilIface] 61,sqT b8 0 (O,0)]) w') ⟨rfl,hes⟩;have h2:=(Mem.toStar (B:=[]) (h1.ownNil 53 7)).pr (p:=([]:List TY).length=([]:List Ga).length) rfl;have h3:=Mem.toEx (f:=fun z=>star (sqZ b8 [] z)) ((O,0),[]) (Mem.toStar (B:=[_,_,_,_]) (h2.sel:Mem Fz w [pr (([]:List TY).length=([]:List Ga).length),star [],sqT b8 0 (O,0),Af 53 7 (Z O 0 0) 0 [],Oz Wo rb (AE es),blk q.1 [.pointer (F ⟨rb,0,O⟩)] 153,blk q.2.1 [I J col] 3,blk q.2.2 [Pw .dash] 290,blk b3 [.pointer (F ⟨rb,0,O⟩)] 153,blk b5 [I J d] 3,Sh b6,blk b7 [.nilIface] 61] w'));exact h3.sel
 ·have hBb:=hB.ext hQ hx;have hQb:=hB.of hQ C' hC;obtain⟨hch,had⟩:=hadm;obtain⟨ht1,_⟩:=hch.told hR hn;rw[had.at_,AR] at ht1;obtain⟨m,hm⟩:∃ m,n - pre.length - 1=m+1:=⟨n - pre.length - 2,by omega⟩
  obtain⟨xp,r,rs⟩:=x;have ht1:4*(xp.1.l.length+1+Ee (AE r))+1+pre.length<=n:=ht1;have hC1:=fun w1 (h:Blw Wo w1)=>We (n:=m) (by omega) (hB0 m (by omega)) (hN m (by omega)) xp r (d+1) had.ok (by omega) (by show 4*Ee (xp.1::AE r)<=m+1;rw[AR];omega) rb w1 h;rw[<- (show rs=BB (m+1) (d+1) xp.1 (AE r) by rw[<- hm];exact had.st)] at hC1
  repeat (first | refine W ?_ | refine R.new fun _ _=>?_)
  refine V.mid hmid ?_;refine V.ux (f:=fun z=>star (sqZ b8 pre z)) (fun z=>?_);refine V.us (B:=[pr (z.2.length=pre.length),star (BE (pre.map Hi) (z.2.map As)),sqT b8 pre.length z.1,Af 53 7 (Z z.1.1 pre.length z.1.2) pre.length (Jd z.2)]) ?_;refine V.prop (p:=z.2.length=pre.length) (fun hzl=>?_)
  repeat refine W ?_
  refine R.cq (fun w' h'=>hC1 w' (hBb.ext hQb h'.1)) (fun G hG=>hBb.of hQb G hG) (fun y=>?_);iterate 3 refine W ?_
  refine R.new fun b10 h10=>?_;iterate 3 refine W ?_
  cases rs with
  | out=>exact V.know (p:=False) (fun w' h'=>let ⟨_,h1,_⟩:=h'.has (X:=pr False) (by simp[Sj]);h1) (fun h=>h.elim)
  | bad no e=>
   have hbad:=hch.bad hR hn had rfl;unfold XU MC Sj;refine V.us (B:=[Dq rb y.2,pr (y.2.length<=1000000)]) ?_;refine V.prop (p:=y.2.length<=1000000) (fun hl=>?_) (hp:=.tail _ (.head _))
   repeat refine W ?_
   refine V.pre (S':=Mem C' Wb [Hf fun u:(TY×List Cn)×Int×Int=>star [pr (Code.ret=.ret/\BW n col d (AE es) []=.bad u.2.1 u.2.2/\u.1.2.length<=1000000),blk b6 (As u.1.1) 53,blk b7 [MC u.2.1 u.2.2] 61,Dq rb u.1.2],T']) ?_ (by intro w' h';exact Mem.toEx (((1,⟨#[]⟩,A4,(O,0,0),(z.1.1,pre.length,z.1.2)),y.2),no,e) (Mem.toStar (B:=[_,_,_,_]) (Mem.sel (h'.pr (p:=Code.ret=.ret/\BW n col d (AE es) []=.bad no e/\y.2.length<=1000000) ⟨rfl,hbad,hl⟩))));exact V.rr
  | ok t rest=>
   unfold XU Sj;refine V.us (B:=[Dq rb y.2,Aq (As y.1) t,pr (AE y.2=rest/\FM Wo y.2)]) ?_;refine V.prop (p:=AE y.2=rest/\FM Wo y.2) (fun hy=>?_) (hp:=.tail _ (.tail _ (.head _)));iterate 5 refine W ?_
   have hpl:pre.length+1<=1000000:=by omega
   have hset:AC (Jd z.2++As (EO A4)) (0+pre.length*7) (As y.1)=F (Jd z.2++As y.1):=by rw[<- hzl];exact Ak2 z.2 y.1 (EO A4)
   refine V.regT [1,3,4,5,6,8,7,9] [0,2] (Mem C' Wb [blk b10 (As y.1) 53]) ?_;iterate 2 refine Wz ?_
   refine Zz.last (ι:=Nat×Nat) (Si:=fun u=>Mem C' Wb ([Aq (As y.1) t,sqT b8 (pre.length+1) (F ⟨u.1,0,O⟩,u.2),Af 53 7 (Z (F ⟨u.1,0,O⟩) (pre.length+1) u.2) (pre.length+1) (Jd z.2++As y.1),star (BE (pre.map Hi) (z.2.map As)),Dq rb y.2,blk b3 [.pointer (F ⟨rb,0,O⟩)] 153,blk b5 [I J d] 3,Sh b6,blk b7 [.nilIface] 61,T'])) (li:=fun _=>[]) (fun hV=>?_) (fun u=>?_)
   ·refine Zz.fk 1 4 (T1:=[3,4,5,6,8]) (R1:=[7,9]) (T2:=[1,3,5,6,8]) (R2:=[7,9]) (d1:=by exact D.ld) (d2:=by exact D.bs (m:=1)) (h1:=fun _=>?_) (h2:=fun bn=>?_);refine Wz ?_;refine Zz.do (hd:=by exact D.bs (m:=1)) (h:=fun bn=>?_);refine Zz.do (hd:=by exact D.app elT (k:=pre.length) (m:=1) (xs:=Jd z.2) (news:=As (EO A4)) (fun w' h'=>(Cs.of_blk (h'.blk (List.Mem.head _))).add) (by omega)) (h:=fun u=>?_);replace hV:=hV u
    rotate_left
    refine Zz.now (he:=by exact D.ld) (h:=fun _=>?_);refine Wz ?_;refine Zz.do (hd:=by exact D.app elT (k:=pre.length) (m:=1) (xs:=Jd z.2) (news:=As (EO A4)) (fun w' h'=>(Cs.of_blk (h'.blk (List.Mem.head _))).add) (by omega)) (h:=fun u=>?_);replace hV:=hV u;all_goals
     refine Zz.ix (k:=pre.length) (Nat.lt_succ_self _) ?_;refine Wz ?_;refine Zz.fk 7 9 (T1:=[9]) (R1:=[]) (T2:=[7]) (R2:=[]) (d1:=by exact D.sw hset) (d2:=by exact D.st) (h1:=fun _=>?_) (h2:=fun _=>?_);refine Zz.do (hd:=by exact D.st) (h:=fun _=>?_)
     rotate_left
     refine Zz.do (hd:=by exact D.sw hset) (h:=fun _=>?_);all_goals
      refine Zz.off (fun w' h'=>h'.sel) ?_;exact R.z (V.less hV (fun w' h'=>h'.sel))
   ·refine V.pre (S':=Mem C' Wb ((Oz Wo rb rest::[blk b3 [.pointer (F ⟨rb,0,O⟩)] 153,blk b5 [I J d] 3,Sh b6,blk b7 [.nilIface] 61,Hf fun z=>star (sqZ b8 (pre++[(xp,r,.ok t rest)]) z)])++[T'])) ?_ (fun w' h'=>by
     have h1:=Acl (b8:=b8) (x:=xp) (r:=r) (rest:=rest) (z:=((F ⟨u.1,0,O⟩,u.2),z.2)) (Zz:=[Dq rb y.2,blk b3 [.pointer (F ⟨rb,0,O⟩)] 153,blk b5 [I J d] 3,Sh b6,blk b7 [.nilIface] 61,T']) h' hzl;exact(KP (Mem.pk h1 (.tl .hd)) hy).sel)
    rw[<- Ux Wo rb pre xp r t rest];exact V.rn
 ·obtain⟨hc1,_⟩:=hfin.1.told hR hn;have hr:=hfin.told hR hn;refine V.ux (f:=fun z=>star (sqZ b8 xs z)) (fun z=>?_);refine V.us (B:=[pr (z.2.length=xs.length),star (BE (xs.map Hi) (z.2.map As)),sqT b8 xs.length z.1,Af 53 7 (Z z.1.1 xs.length z.1.2) xs.length (Jd z.2)]) ?_;refine V.prop (p:=z.2.length=xs.length) (fun hzl=>?_);refine V.ux (f:=fun es2:List Cn=>star [Dq rb es2,pr (es2.map (·.1)=CU (AE es) xs/\FM Wo es2)]) (fun es2=>?_);refine V.us (B:=[Dq rb es2,pr (es2.map (·.1)=CU (AE es) xs/\FM Wo es2)]) ?_;refine V.prop (p:=es2.map (·.1)=CU (AE es) xs/\FM Wo es2) (fun he2=>?_) (hp:=.tail _ (.head _));rw[<- he2.1] at hc1 hr;have hc1:4*Ee (AE es2)+1+xs.length<=n:=hc1;have hl2:=EH (AE es2);rw[List.length_map] at hl2;have hends:=fun(Zz:List Aj) w' (h':Mem Fz w Zz w') hm=>Qk rb es2 col Fz w w' Zz h' hm (by omega);have hcase:(BW n col d (AE es) []=.ok (DZ (xs.map Hi)) (AE es2)/\Qt col es2=.nilIface)\/∃ no e,BW n col d (AE es) []=.bad no e/\Qt col es2=MC no e:=by
   rw[show BW n col d (AE es) []=_ from hr];cases es2 with
   | nil=>exact .inl ⟨rfl,rfl⟩
   | cons x r=>
    show(Ex col _ x.1 (AE r)=_/\_)\/∃ no e,Ex col _ x.1 (AE r)=_/\_;unfold Ex Qt;dsimp only
    by_cases h1:x.1.col<col
    ·rw[if_pos h1,if_pos h1];exact .inl ⟨rfl,rfl⟩
    ·rw[if_neg h1,if_neg h1];by_cases h2:col<x.1.col
     ·rw[if_pos h2,if_pos h2];exact .inr ⟨_,_,rfl,rfl⟩
     ·rw[if_neg h2,if_neg h2];exact .inr ⟨_,_,rfl,rfl⟩
  rcases hcase with ⟨h1,h2⟩ | ⟨no,e,h1,h2⟩;all_goals
   rw[h2] at hends;rw[h1];refine W ?_;refine Zz.on (Mem Fz w [sqT b8 xs.length z.1,blk b3 [.pointer (F ⟨rb,0,O⟩)] 153]) ?_;iterate 3 refine Wy ?_
   refine Zz.c (fun w' h'=>hends _ w' h' (by simp)) ?_;iterate 2 refine Wy ?_
   refine Zz.off (fun w' h'=>h'.sel) ?_;refine W ?_;refine V.eA (fun w' h'=>?_) (hr:=.one rfl (by(repeat (first | exact List.Mem.head _ | apply List.Mem.tail))) (by intro w;kernel_rfl) .nil)
  ·have h3:Mem Fz w (Af 53 7 (Z z.1.1 xs.length z.1.2) (xs.map Hi).length (Jd z.2)::star (BE (xs.map Hi) (z.2.map As))::[Dq rb es2]) w':=by rw[List.length_map];exact h'.sel
   have h4:=EF (k:=1) (nm:=⟨#[]⟩) (x:=A4) (ks:=[]) (kv:=Z O 0 0) (by rw[List.length_map,List.length_map,hzl]) (Mem.ksNil h3);exact⟨((1,⟨#[]⟩,A4,(O,0,0),(z.1.1,xs.length,z.1.2)),es2),rfl,Np h4.sel ⟨rfl,he2.2⟩⟩
  ·exact⟨((1,⟨#[]⟩,A4,(O,0,0),(z.1.1,xs.length,z.1.2)),es2),rfl,Dv (Wo:=Wo) (no:=no) (e:=e) h'.sel (by omega)⟩
 ·refine V.ux (f:=fun u:(TY×List Cn)×Int×Int=>star [pr (co=.ret/\BW n col d (AE es) []=.bad u.2.1 u.2.2/\u.1.2.length<=1000000),blk b6 (As u.1.1) 53,blk b7 [MC u.2.1 u.2.2] 61,Dq rb u.1.2]) (fun u=>?_);refine V.us (B:=[pr (co=.ret/\BW n col d (AE es) []=.bad u.2.1 u.2.2/\u.1.2.length<=1000000),blk b6 (As u.1.1) 53,blk b7 [MC u.2.1 u.2.2] 61,Dq rb u.1.2]) ?_;refine V.prop (p:=co=.ret/\BW n col d (AE es) []=.bad u.2.1 u.2.2/\u.1.2.length<=1000000) (fun⟨hco,hbad,hl⟩=>?_);subst hco;rw[hbad];refine V.eA (fun w' h'=>?_) (hr:=.one rfl (by(repeat (first | exact List.Mem.head _ | apply List.Mem.tail))) (by intro w;kernel_rfl) .nil);exact⟨u.1,rfl,Dv (Wo:=Wo) (no:=u.2.1) (e:=u.2.2) h'.sel hl⟩
end
end
section
set_option maxHeartbeats 32000000
set_option maxRecDepth 100000
def kyB (x:Ga):Sc:=(EA x.1.1.l).1
theorem Agz (col:Int) (d:Nat):Ahp col .key (fun m x r=>prR m (d+1) x r) (fun m l xs=>AQ m col d l (xs.map kyB) (xs.map Hi)) (fun xs=>DG (xs.map kyB) (xs.map Hi)) where
 e m xs:=by rw[AQ]
 x m x r xs h:=by rw[AQ];exact if_neg h
 b m x r xs no e h1 h2 h:=by
  rw[AQ,if_pos ⟨h1,h2⟩];unfold prR at h;split at h<;>rename_i hk
  ·rw[if_pos hk];exact h
  ·rw[if_neg hk,h];rfl
 o m x r xs z t rest h1 h2 h3 h4 h5:=by
  rw[AQ,if_pos ⟨h1,h2⟩];rw[h5] at h4;unfold prR at h4;split at h4<;>rename_i hk
  ·cases h4
  ·rw[if_neg hk,<- h4,List.map_append,List.map_append,List.map_singleton,List.map_singleton,show Hi z=t by unfold Hi;rw[h5],show kyB z=(EA x.l).1 by unfold kyB;rw[h3]];rfl
 mu m x r t rest h:=by
  unfold prR at h;split at h
  ·cases h
  ·exact(H3 m).2.2.2.2.2.1 _ _ _ _ _ h
abbrev dqT (b n:Nat) (z:ZzP):Aj:=blk b [I J 2,Q ⟨#[]⟩,I J 0,I J 0,Q ⟨#[]⟩,Z z.1.1 n z.1.2,Z z.2.1 n z.2.2] 53
abbrev DqP:=ZzP×List TY
def Zq (xs:List Ga):List Value:=(xs.map kyB).flatMap DO
def dqZ (b8:Nat) (pre:List Ga) (z:DqP):List Aj:=[pr (z.2.length=pre.length),star (BE (pre.map Hi) (z.2.map As)),dqT b8 pre.length z.1,Af 36 3 (Z z.1.1.1 pre.length z.1.1.2) pre.length (Zq pre),Af 53 7 (Z z.1.2.1 pre.length z.1.2.2) pre.length (Jd z.2)]
theorem Aif {C:Nat->Prop} {w0 w:Y} {Zz:List Aj} {b8:Nat} {pre:List Ga} {x:Cn} {r:List Cn} {t:Tr} {rest:List En} {y:TY} {z:DqP} (h:Mem C w0 ([Aq (As y) t,dqT b8 (pre.length+1) z.1,Af 36 3 (Z z.1.1.1 (pre.length+1) z.1.1.2) (pre.length+1) (Zq pre++DO (EA x.1.l).1),Af 53 7 (Z z.1.2.1 (pre.length+1) z.1.2.2) (pre.length+1) (Jd z.2++As y),star (BE (pre.map Hi) (z.2.map As))]++Zz) w) (hl:z.2.length=pre.length):
  Mem C w0 (Hf (fun z=>star (dqZ b8 (pre++[(x,r,.ok t rest)]) z))::Zz) w:=by
 have h1:=E0 (A:=BE (pre.map Hi) (z.2.map As)) (B:=[Aq (As y) t]) (Mem.pk h (.tl (.tl (.tl (.tl .hd)))));rw[<- FT _ _ _ _ (by rw[List.length_map,List.length_map,hl])] at h1;have h2:=h1.pr (p:=(z.2++[y]).length=pre.length+1) (by rw[List.length_append,hl];rfl);refine Mem.toEx (z.1,z.2++[y]) (Mem.toStar ?_);unfold dqZ;rw[show(pre++[(x,r,BR.ok t rest)]).length=pre.length+1 by simp,show(pre++[(x,r,BR.ok t rest)]).map Hi=pre.map Hi++[t] by simp[Hi],List.map_append,show Jd (z.2++[y])=Jd z.2++As y by unfold Jd;simp,show Zq (pre++[(x,r,BR.ok t rest)])=Zq pre++DO (EA x.1.l).1 by unfold Zq kyB;simp];exact h2
section
variable {Wo:Gg} {n:Nat}
theorem XR (hn1:n<=1000000) (hB0:∀ m,m<n->R4 Wo m) (col:Int) (d:Nat) (es:List Cn) (hes:FM Wo es) (hd:d<=24) (hn:4*Ee (AE es)+1<=n):BkC Wo es 152 [I J col,I J d] (AQ n col d (AE es) [] []):=by
 intro rb w hB Fz hX hF hQ;have hle:=EH (AE es);rw[List.length_map] at hle;have hR:=Agz col d;refine V.enter _ Tryz.func152 (Mem.startX hX hF) ?_;refine W ?_;refine R.new fun b3 h3=>?_;refine R.new fun b5 h5=>?_;refine R.new fun b6 h6=>?_;refine R.new fun b7 h7=>?_
 repeat refine W ?_
 refine R.new fun b8 h8=>?_
 repeat refine W ?_
 refine R.cf (fun w' h'=>Py rb col _ _ w') (fun q=>?_);refine R.z ?_;have hI:=Afs (Wo:=Wo) (es0:=AE es) (col:=col) (bg:=.key) (step:=X1 (fun m x r=>prR m (d+1) x r) n) (.inr rfl) (fun i x r t rest h=>(hR.mu _ _ _ t rest h).length_le) (by rw[List.length_map];omega) rb q.1 q.2.1 q.2.2;refine V.range hI (fun pre=>[blk b3 [.pointer (F ⟨rb,0,O⟩)] 153,blk b5 [I J d] 3,Sh b6,blk b7 [.nilIface] 61,Hf fun z=>star (dqZ b8 pre z)])
  (fun co pre=>[Hf fun u:(TY×List Cn)×Int×Int=>star [pr (co=.ret/\AQ n col d (AE es) [] []=.bad u.2.1 u.2.2/\u.1.2.length<=1000000),blk b6 (As u.1.1) 53,blk b7 [MC u.2.1 u.2.2] 61,Dq rb u.1.2]])
  (fun w' h=>?_) (fun w1 w2 G h hb hG=>⟨hB.ext hQ (h.1.trans (AI.of_below (C:=Fz) hb) (fun _ _ e=>e)),hB.of hQ G hG⟩) (fun r' pre x Wb C' T T' Rl hadm hx hC hmid=>?_) (fun D xs hfin=>?_) (fun D co xs=>?_)
 ·have h1:=KP (Mem.sel h:Mem Fz w (Dq rb es::[blk q.1 [.pointer (F ⟨rb,0,O⟩)] 153,blk q.2.1 [I J col] 3,blk q.2.2 [Pw .key] 290,blk b3 [.pointer (F ⟨rb,0,O⟩)] 153,blk b5 [I J d] 3,Sh b6,blk b7 [.nilIface] 61,dqT b8 0 ((O,0),(O,0))]) w') ⟨rfl,hes⟩;have h2:=(Mem.toStar (B:=[]) ((h1.ownNil 53 7).ownNil 36 3)).pr (p:=([]:List TY).length=([]:List Ga).length) rfl;have h3:=Mem.toEx (f:=fun z=>star (dqZ b8 [] z)) (((O,0),(O,0)),[]) (Mem.toStar (B:=[_,_,_,_,_]) (h2.sel:Mem Fz w [pr (([]:List TY).length=([]:List Ga).length),star [],dqT b8 0 ((O,0),(O,0)),Af 36 3 (Z O 0 0) 0 [],Af 53 7 (Z O 0 0) 0 [],Oz Wo rb (AE es),blk q.1 [.pointer (F ⟨rb,0,O⟩)] 153,blk q.2.1 [I J col] 3,blk q.2.2 [Pw .key] 290,blk b3 [.pointer (F ⟨rb,0,O⟩)] 153,blk b5 [I J d] 3,Sh b6,blk b7 [.nilIface] 61] w'));exact h3.sel
 ·have hBb:=hB.ext hQ hx;have hQb:=hB.of hQ C' hC;obtain⟨hch,had⟩:=hadm;obtain⟨ht1,_⟩:=hch.told hR hn;rw[had.at_,AR] at ht1;obtain⟨m,hm⟩:∃ m,n - pre.length - 1=m+1:=⟨n - pre.length - 2,by omega⟩
  obtain⟨xp,r,rs⟩:=x;have ht1:4*(xp.1.l.length+1+Ee (AE r))+1+pre.length<=n:=ht1;have hC1:=fun w1 (h:Blw Wo w1)=>WE (n:=m) (by omega) (hB0 m (by omega)) xp r (d+1) had.ok (by omega) (by show 4*Ee (xp.1::AE r)<=m+1;rw[AR];omega) had.bg rb w1 h;rw[<- (show rs=prR (m+1) (d+1) xp.1 (AE r) by rw[<- hm];exact had.st)] at hC1
  repeat (first | refine W ?_ | refine R.new fun _ _=>?_)
  refine V.mid hmid ?_;refine V.ux (f:=fun z=>star (dqZ b8 pre z)) (fun z=>?_);refine V.us (B:=[pr (z.2.length=pre.length),star (BE (pre.map Hi) (z.2.map As)),dqT b8 pre.length z.1,Af 36 3 (Z z.1.1.1 pre.length z.1.1.2) pre.length (Zq pre),Af 53 7 (Z z.1.2.1 pre.length z.1.2.2) pre.length (Jd z.2)]) ?_;refine V.prop (p:=z.2.length=pre.length) (fun hzl=>?_)
  repeat refine W ?_
  refine R.cq (fun w' h'=>hC1 w' (hBb.ext hQb h'.1)) (fun G hG=>hBb.of hQb G hG) (fun y=>?_);iterate 4 refine W ?_
  refine R.new fun b10 h10=>?_;refine R.new fun b11 h11=>?_;iterate 4 refine W ?_
  cases rs with
  | out=>exact V.know (p:=False) (fun w' h'=>let ⟨_,h1,_⟩:=h'.has (X:=pr False) (by simp[Sj]);h1) (fun h=>h.elim)
  | bad no e=>
   have hbad:=hch.bad hR hn had rfl;unfold XU MC Sj;refine V.us (B:=[Dq rb y.2,pr (y.2.length<=1000000)]) ?_;refine V.prop (p:=y.2.length<=1000000) (fun hl=>?_) (hp:=.tail _ (.head _))
   repeat refine W ?_
   refine V.pre (S':=Mem C' Wb [Hf fun u:(TY×List Cn)×Int×Int=>star [pr (Code.ret=.ret/\AQ n col d (AE es) [] []=.bad u.2.1 u.2.2/\u.1.2.length<=1000000),blk b6 (As u.1.1) 53,blk b7 [MC u.2.1 u.2.2] 61,Dq rb u.1.2],T']) ?_ (by intro w' h';exact Mem.toEx (((2,⟨#[]⟩,A4,(z.1.1.1,pre.length,z.1.1.2),(z.1.2.1,pre.length,z.1.2.2)),y.2),no,e) (Mem.toStar (B:=[_,_,_,_]) (Mem.sel (h'.pr (p:=Code.ret=.ret/\AQ n col d (AE es) [] []=.bad no e/\y.2.length<=1000000) ⟨rfl,hbad,hl⟩))));exact V.rr
  | ok t rest=>
   unfold XU Sj;refine V.us (B:=[Dq rb y.2,Aq (As y.1) t,pr (AE y.2=rest/\FM Wo y.2)]) ?_;refine V.prop (p:=AE y.2=rest/\FM Wo y.2) (fun hy=>?_) (hp:=.tail _ (.tail _ (.head _)));iterate 5 refine W ?_
   have hpl:pre.length+1<=1000000:=by omega
   refine V.regT [3,4,8,9,10,11,12,13] [0,1,2,5,6,7] (Mem C' Wb [dqT b8 pre.length z.1,scB b10 (EA xp.1.l).1,blk b11 (As y.1) 53]) ?_;iterate 6 refine Wz ?_
   refine Zz.last (ι:=(Nat×Nat)×(Nat×Nat)) (Si:=fun u=>Mem C' Wb ([Aq (As y.1) t,dqT b8 (pre.length+1) ((F ⟨u.1.1,0,O⟩,u.1.2),(F ⟨u.2.1,0,O⟩,u.2.2)),Af 36 3 (Z (F ⟨u.1.1,0,O⟩) (pre.length+1) u.1.2) (pre.length+1) (Zq pre++DO (EA xp.1.l).1),Af 53 7 (Z (F ⟨u.2.1,0,O⟩) (pre.length+1) u.2.2) (pre.length+1) (Jd z.2++As y.1),star (BE (pre.map Hi) (z.2.map As)),Dq rb y.2,blk b3 [.pointer (F ⟨rb,0,O⟩)] 153,blk b5 [I J d] 3,Sh b6,blk b7 [.nilIface] 61,T'])) (li:=fun _=>[]) (fun hV=>?_) (fun u=>?_)
   ·refine Zz.fk 3 8 (T1:=[]) (R1:=[4,8,9,10,11,12,13]) (T2:=[3,4,10,9,11,12,13]) (R2:=[]) (d1:=by exact D.bs (m:=1)) (d2:=by exact D.bs (m:=1)) (h1:=fun bk=>?_) (h2:=fun bt=>?_);refine Zz.fk 4 8 (T1:=[10,8,9,11,12,13]) (R1:=[]) (T2:=[4,10,9,11,12,13]) (R2:=[]) (d1:=by exact D.app Xx (k:=pre.length) (m:=1) (xs:=Zq pre) (news:=DO (EA xp.1.l).1) (fun w' h'=>(Cs.of_blk (h'.blk (by repeat (first | exact List.Mem.head _ | apply List.Mem.tail)))).add) (by omega)) (d2:=by exact D.bs (m:=1)) (h1:=fun u1=>?_) (h2:=fun bt=>?_);refine Wz ?_;refine Zz.do (hd:=by exact D.bs (m:=1)) (h:=fun bt=>?_)
    rotate_left
    refine Zz.do (hd:=by exact D.app Xx (k:=pre.length) (m:=1) (xs:=Zq pre) (news:=DO (EA xp.1.l).1) (fun w' h'=>(Cs.of_blk (h'.blk (by repeat (first | exact List.Mem.head _ | apply List.Mem.tail)))).add) (by omega)) (h:=fun u1=>?_);refine Wz ?_
    rotate_left
    refine Zz.do (hd:=by exact D.bs (m:=1)) (h:=fun bk=>?_);refine Zz.do (hd:=by exact D.app Xx (k:=pre.length) (m:=1) (xs:=Zq pre) (news:=DO (EA xp.1.l).1) (fun w' h'=>(Cs.of_blk (h'.blk (by repeat (first | exact List.Mem.head _ | apply List.Mem.tail)))).add) (by omega)) (h:=fun u1=>?_);refine Wz ?_
    rotate_left
    all_goals
     refine Zz.do (hd:=by exact D.app elT (k:=pre.length) (m:=1) (xs:=Jd z.2) (news:=As y.1) (fun w' h'=>(Cs.of_blk (h'.blk (by repeat (first | exact List.Mem.head _ | apply List.Mem.tail)))).add) (by omega)) (h:=fun u2=>?_);replace hV:=hV (u1,u2);refine Zz.clr (Mem C' Wb []) (hd:=by exact D.st) (h:=fun _=>?_);refine Wz ?_;refine Zz.do (hd:=by exact D.st) (h:=fun _=>?_);refine Zz.off (fun w' h'=>h'.sel) ?_;exact R.z (V.less hV (fun w' h'=>h'.sel))
   ·refine V.pre (S':=Mem C' Wb ((Oz Wo rb rest::[blk b3 [.pointer (F ⟨rb,0,O⟩)] 153,blk b5 [I J d] 3,Sh b6,blk b7 [.nilIface] 61,Hf fun z=>star (dqZ b8 (pre++[(xp,r,.ok t rest)]) z)])++[T'])) ?_ (fun w' h'=>by
     have h1:=Aif (b8:=b8) (x:=xp) (r:=r) (rest:=rest) (z:=(((F ⟨u.1.1,0,O⟩,u.1.2),(F ⟨u.2.1,0,O⟩,u.2.2)),z.2)) (Zz:=[Dq rb y.2,blk b3 [.pointer (F ⟨rb,0,O⟩)] 153,blk b5 [I J d] 3,Sh b6,blk b7 [.nilIface] 61,T']) h' hzl;exact(KP (Mem.pk h1 (.tl .hd)) hy).sel)
    rw[<- Ux Wo rb pre xp r t rest];exact V.rn
 ·obtain⟨hc1,_⟩:=hfin.1.told hR hn;have hr:=hfin.told hR hn;refine V.ux (f:=fun z=>star (dqZ b8 xs z)) (fun z=>?_);refine V.us (B:=[pr (z.2.length=xs.length),star (BE (xs.map Hi) (z.2.map As)),dqT b8 xs.length z.1,Af 36 3 (Z z.1.1.1 xs.length z.1.1.2) xs.length (Zq xs),Af 53 7 (Z z.1.2.1 xs.length z.1.2.2) xs.length (Jd z.2)]) ?_;refine V.prop (p:=z.2.length=xs.length) (fun hzl=>?_);refine V.ux (f:=fun es2:List Cn=>star [Dq rb es2,pr (es2.map (·.1)=CU (AE es) xs/\FM Wo es2)]) (fun es2=>?_);refine V.us (B:=[Dq rb es2,pr (es2.map (·.1)=CU (AE es) xs/\FM Wo es2)]) ?_;refine V.prop (p:=es2.map (·.1)=CU (AE es) xs/\FM Wo es2) (fun he2=>?_) (hp:=.tail _ (.head _));rw[<- he2.1] at hc1 hr;have hc1:4*Ee (AE es2)+1+xs.length<=n:=hc1;have hl2:=EH (AE es2);rw[List.length_map] at hl2;have hends:=fun(Zz:List Aj) w' (h':Mem Fz w Zz w') hm=>Qk rb es2 col Fz w w' Zz h' hm (by omega);have hcase:(AQ n col d (AE es) [] []=.ok (DG (xs.map kyB) (xs.map Hi)) (AE es2)/\Qt col es2=.nilIface)\/∃ no e,AQ n col d (AE es) [] []=.bad no e/\Qt col es2=MC no e:=by
   rw[show AQ n col d (AE es) [] []=_ from hr];cases es2 with
   | nil=>exact .inl ⟨rfl,rfl⟩
   | cons x r=>
    show(Ex col _ x.1 (AE r)=_/\_)\/∃ no e,Ex col _ x.1 (AE r)=_/\_;unfold Ex Qt;dsimp only
    by_cases h1:x.1.col<col
    ·rw[if_pos h1,if_pos h1];exact .inl ⟨rfl,rfl⟩
    ·rw[if_neg h1,if_neg h1];by_cases h2:col<x.1.col
     ·rw[if_pos h2,if_pos h2];exact .inr ⟨_,_,rfl,rfl⟩
     ·rw[if_neg h2,if_neg h2];exact .inr ⟨_,_,rfl,rfl⟩
  rcases hcase with ⟨h1,h2⟩ | ⟨no,e,h1,h2⟩;all_goals
   rw[h2] at hends;rw[h1];refine W ?_;refine Zz.on (Mem Fz w [dqT b8 xs.length z.1,blk b3 [.pointer (F ⟨rb,0,O⟩)] 153]) ?_;iterate 3 refine Wy ?_
   refine Zz.c (fun w' h'=>hends _ w' h' (by simp)) ?_;iterate 2 refine Wy ?_
   refine Zz.off (fun w' h'=>h'.sel) ?_;refine W ?_;refine V.eA (fun w' h'=>?_) (hr:=.one rfl (by(repeat (first | exact List.Mem.head _ | apply List.Mem.tail))) (by intro w;kernel_rfl) .nil)
  ·have h3:Mem Fz w (Af 36 3 (Z z.1.1.1 xs.length z.1.1.2) (xs.map kyB).length ((xs.map kyB).flatMap DO)::Af 53 7 (Z z.1.2.1 xs.length z.1.2.2) (xs.map Hi).length (Jd z.2)::star (BE (xs.map Hi) (z.2.map As))::[Dq rb es2]) w':=by rw[List.length_map,List.length_map];exact h'.sel
   have h4:=EF (k:=2) (nm:=⟨#[]⟩) (x:=A4) (ks:=xs.map kyB) (by rw[List.length_map,List.length_map,hzl]) (⟨h3.1,h3.2.as fun Fz w h=>Af.ks h⟩);exact⟨((2,⟨#[]⟩,A4,(z.1.1.1,xs.length,z.1.1.2),(z.1.2.1,xs.length,z.1.2.2)),es2),rfl,Np h4.sel ⟨rfl,he2.2⟩⟩
  ·exact⟨((2,⟨#[]⟩,A4,(z.1.1.1,xs.length,z.1.1.2),(z.1.2.1,xs.length,z.1.2.2)),es2),rfl,Dv (Wo:=Wo) (no:=no) (e:=e) h'.sel (by omega)⟩
 ·refine V.ux (f:=fun u:(TY×List Cn)×Int×Int=>star [pr (co=.ret/\AQ n col d (AE es) [] []=.bad u.2.1 u.2.2/\u.1.2.length<=1000000),blk b6 (As u.1.1) 53,blk b7 [MC u.2.1 u.2.2] 61,Dq rb u.1.2]) (fun u=>?_);refine V.us (B:=[pr (co=.ret/\AQ n col d (AE es) [] []=.bad u.2.1 u.2.2/\u.1.2.length<=1000000),blk b6 (As u.1.1) 53,blk b7 [MC u.2.1 u.2.2] 61,Dq rb u.1.2]) ?_;refine V.prop (p:=co=.ret/\AQ n col d (AE es) [] []=.bad u.2.1 u.2.2/\u.1.2.length<=1000000) (fun⟨hco,hbad,hl⟩=>?_);subst hco;rw[hbad];refine V.eA (fun w' h'=>?_) (hr:=.one rfl (by(repeat (first | exact List.Mem.head _ | apply List.Mem.tail))) (by intro w;kernel_rfl) .nil);exact⟨u.1,rfl,Dv (Wo:=Wo) (no:=u.2.1) (e:=u.2.2) h'.sel hl⟩
end
end
section
set_option maxHeartbeats 32000000
set_option maxRecDepth 100000
section
variable {Wo:Gg} {n:Nat}
theorem Wm (hn1:n<=1000000) (hB0:∀ m,m<=n->R4 Wo m) (hN:∀ m,m<n->Wu Wo m):Wu Wo (n+1):=by
 intro m d es hes hne hd hn rb w hB Fz hX hF hQ;cases es with
 | nil=>exact absurd rfl hne
 | cons x r=>
  have hle:=EH (x.1::AE r);rw[List.length_cons,List.length_map] at hle;have hn:4*Ee (x.1::AE r)+2<=n+1:=hn;have hlen:(x::r).length<=1000000:=by rw[List.length_cons];omega
  have hrl:r.length<=1000000:=by rw[List.length_cons] at hlen;omega
  have hx:=hes x (List.mem_cons_self ..);have hsq:=fun(h:¬24<d)=>YV (Wo:=Wo) hn1 (fun m h=>hB0 m (by omega)) hN x.1.col d (x::r) hes (by omega) (by show 4*Ee (x.1::AE r)+1<=n;omega) rb;have hdc:=fun(h:¬24<d)=>XR (Wo:=Wo) hn1 (fun m h=>hB0 m (by omega)) x.1.col d (x::r) hes (by omega) (by show 4*Ee (x.1::AE r)+1<=n;omega) rb;obtain⟨⟨no,cl,l⟩,A,c⟩:=x;have hfu:4*Ee (AE r)+3<=n:=by
   rw[AR] at hn;have:=List.length_pos_iff.2 hx.g.ne;dsimp only at hn this;omega
  have hbg:=fun w' (h:Blw Wo w')=>G0 (Yz Wo) no cl A c l w' (hx.tks.to fun b o v hb hv=>⟨h.cell hv hb.2,hb⟩);rw[show AV (n+1) m d (AE ((⟨no,cl,l⟩,A,c)::r))=if 24<d then .bad no 73 else match C9 l with | .dash=>BW n cl d (AE ((⟨no,cl,l⟩,A,c)::r)) [] | .key=>AQ n cl d (AE ((⟨no,cl,l⟩,A,c)::r)) [] [] | .name s=>LB no s (belowB n no m d (AE r)) | .plain=>I2 no l d (AE r) by show AV (n+1) m d (⟨no,cl,l⟩::AE r)=_;rw[AV];rfl];obtain⟨g,hg⟩:∃ g,C9 l=g:=⟨_,rfl⟩
  rw[hg] at hbg |-;refine V.enter _ Tryz.func111 (Mem.startX hX hF) ?_
  repeat (first | refine W ?_ | refine R.new fun _ _=>?_)
  refine R.c (fun w' h'=>DA rb (⟨no,cl,l⟩,A,c) r Fz w w' _ h' (by simp) hlen) ?_
  repeat (first | refine W ?_ | refine R.new fun _ _=>?_)
  refine V.ifp (fun h=>?_) (fun h=>?_)
  ·rw[if_pos (show 24<d by omega)]
   repeat refine W ?_
   refine R.c (fun w' h'=>Bk no cl A l.length c 73 w') ?_
   repeat refine W ?_
   refine V.eA fun w' h'=>?_;exact⟨(EO A4,(⟨no,cl,l⟩,A,c)::r),rfl,Dv (Wo:=Wo) (no:=no) (e:=73) h'.sel hlen⟩
  ·have hd24:¬24<d:=by omega
   rw[if_neg hd24]
   repeat refine W ?_
   refine R.c (fun w' h'=>hbg w' (hB.ext hQ h'.1)) ?_;cases g with
   | dash=>
    repeat (first | refine W ?_ | refine R.new fun _ _=>?_)
    refine R.cq (fun w' h'=>hsq hd24 w' (hB.ext hQ h'.1)) (fun G hG=>hB.of hQ G hG) (fun y=>?_)
    repeat refine W ?_
    refine V.eA fun w' h'=>?_;exact⟨y,rfl,Mem.toW h'.sel⟩
   | key=>
    repeat (first | refine W ?_ | refine R.new fun _ _=>?_)
    refine R.cq (fun w' h'=>hdc hd24 w' (hB.ext hQ h'.1)) (fun G hG=>hB.of hQ G hG) (fun y=>?_)
    repeat refine W ?_
    refine V.eA fun w' h'=>?_;exact⟨y,rfl,Mem.toW h'.sel⟩
   | name s=>
    repeat (first | refine W ?_ | refine R.new fun _ _=>?_)
    refine R.cq (fun w' h'=>IV rb _ r w' hlen) (fun G hG=>trivial) (fun _=>?_)
    repeat refine W ?_
    refine R.cq (fun w' h'=>Mi hn1 (hB0 n (Nat.le_refl n)) no cl m A l.length c d s r hes.tl hd hfu rb w' (hB.ext hQ h'.1)) (fun G hG=>hB.of hQ G hG) (fun y=>?_)
    repeat refine W ?_
    refine V.eA fun w' h'=>?_;exact⟨y,rfl,Mem.toW h'.sel⟩
   | plain=>
    repeat (first | refine W ?_ | refine R.new fun _ _=>?_)
    refine R.cq (fun w' h'=>IV rb _ r w' hlen) (fun G hG=>trivial) (fun _=>?_)
    repeat refine W ?_
    refine R.cq (fun w' h'=>Mh no cl A l.length c l A c d r hes.tl hx.tks hx.len hx.small hx.cap hd hrl rb w' (hB.ext hQ h'.1)) (fun G hG=>hB.of hQ G hG) (fun y=>?_)
    repeat refine W ?_
    refine V.eA fun w' h'=>?_;exact⟨y,rfl,Mem.toW h'.sel⟩
theorem Ak6 (Wo:Gg):∀ n,n<=1000000->Wu Wo n/\R4 Wo n:=fun n=>by
 induction n using Nat.strongRecOn with
 | _ n ih=>
  intro hn;cases n with
  | zero=>exact⟨fun m d es hes hne hd h=>by omega,fun no col m A lf cf d es hes hd h=>by omega⟩
  | succ n=>
   exact⟨Wm (by omega) (fun m hm=>(ih m (by omega) (by omega)).2) (fun m hm=>(ih m (by omega) (by omega)).1),S0 (by omega) (ih n (by omega) (by omega)).1⟩
end
end
section
structure KN where
 no:Int
 ind:Int
 s:List UInt8
def So (t:Tk):BX:=⟨t.kind,t.str,t.at_⟩
def Tx (x:KN):Bool:=decide (0<=x.ind)&&decide (x.ind<=8000)
def EU (s:List UInt8):List BX×Int:=((Bu s).1.map So,if (Bu s).2.2=0/\(Bu s).1=[] then 93 else ((Bu s).2.2:Int))
inductive OfR where
 | ok (es:List En)
 | bad (no e:Int)
def OfR.cons (x:En):OfR->OfR
 | .ok es=>.ok (x::es)
 | b=>b
def HY:List KN->OfR
 | []=>.ok []
 | x::r=>if (EU x.s).2≠0 then .bad x.no (EU x.s).2 else (HY r).cons ⟨x.no,x.ind,(EU x.s).1⟩
def VH (l:List KN):OfR:=if l.all Tx then HY l else .bad 0 2
def Yw:BR->Tr×Int×Int
 | .ok t []=>(t,0,0)
 | .ok _ (x::_)=>(DW,x.no,92)
 | .bad no e=>(DW,no,e)
 | .out=>(DW,0,0)
def H4 (Fz:Nat) (es:List En):Tr×Int×Int:=if es=[] then (DW,0,0) else Yw (AV Fz (-1) 1 es)
def C0 (Fz:Nat) (l:List KN):Tr×Int×Int:=match VH l with
 | .ok es=>H4 Fz es
 | .bad no e=>(DW,no,e)
theorem P6:∀ {l:List KN} {es:List En},HY l=.ok es->es.length=l.length/\Full es/\∀ c:Int,(∀ x∈l,c<x.ind)->∀ y∈es,c<y.col
 | [],es,h=>by
  rw[HY] at h;injection h with h;subst h;exact⟨rfl,(fun x hx=>by cases hx),fun c _ y hy=>by cases hy⟩
 | x::r,es,h=>by
  rw[HY] at h;split at h
  ·cases h
  ·rename_i hne;cases hr:HY r with
   | bad no e=>rw[hr] at h;cases h
   | ok es'=>
    rw[hr] at h;injection h with h;subst h;obtain⟨h1,h2,h3⟩:=P6 hr;refine⟨by simp[h1],fun y hy=>?_,fun c hc y hy=>?_⟩
    ·rcases List.mem_cons.1 hy with rfl | hy
     ·intro he;have hne:=Decidable.not_not.1 hne;have he:(Bu x.s).1.map So=[]:=he;rw[List.map_eq_nil_iff] at he;unfold EU at hne;simp only[he,and_true] at hne;split at hne
      ·omega
      ·rename_i h0;exact h0 (by omega)
     ·exact h2 y hy
    ·rcases List.mem_cons.1 hy with rfl | hy
     ·exact hc x List.mem_cons_self
     ·exact h3 c (fun z hz=>hc z (List.mem_cons_of_mem _ hz)) y hy
end
section
set_option maxHeartbeats 16000000
open Go Go.RowKit Go.Extern.Stop Go.Stop Go.Extern
set_option maxRecDepth 100000
namespace Ea
theorem asB:T4 214 224 2 where
 valueOfP _ _:=by kernel_rfl
 typeP _ _:=by kernel_rfl
 kindP _:=by kernel_rfl
 kindE _:=by kernel_rfl
 partsP _ _:=by kernel_rfl
 undP:=by kernel_rfl
 elemP _:=by kernel_rfl
 impE _:=by kernel_rfl
 typeOfE _ _:=by kernel_rfl
 assE _:=by kernel_rfl
 valueOfE vs w h:=by rcases vs with _ | ⟨a,_ | ⟨b,_ | ⟨c,r⟩⟩⟩<;>first | (simp at h;done) | kernel_rfl
 elemOfP _:=by kernel_rfl
 mkE _ _:=by kernel_rfl
 partsA _ _:=by kernel_rfl
 partsE _ _:=by kernel_rfl
 dirE _:=by kernel_rfl
 sizeE _:=by kernel_rfl
 aggE _:=by kernel_rfl
theorem b_told (no e:Int) (w:Y) (hg:ErrC w):Calls Tryz.prog 73 #[MC no e] w fun ev w'=>ev=.returned (.tuple #[I J no,I J e])/\Below w.heap.size w w':=by
 refine V.enter _ Tryz.func73 (Mem.start (C:=Ao) w) ?_
 repeat refine W ?_
 refine R.new fun tb htb=>?_
 repeat refine W ?_
 refine R.cw (X:=blk tb [I J 0,I J 0] 214) (v:=fun _:Unit=>.bool true) (X':=fun _=>blk tb [I J no,I J e] 214) (fun w' h'=>LS asB (vs:=[I J no,I J e]) rfl rfl rfl w' (h'.1.cell hg fun e=>e) (fun e=>by have:=FV hg;omega)) (fun _=>?_)
 repeat refine W ?_
 refine V.end fun w' h'=>?_;exact⟨rfl,h'.1.below⟩
theorem b_told0 (w:Y):Calls Tryz.prog 73 #[.nilIface] w fun ev w'=>ev=.returned (.tuple #[I J 0,I J 0])/\Below w.heap.size w w':=by
 refine V.enter _ Tryz.func73 (Mem.start (C:=Ao) w) ?_
 repeat refine W ?_
 refine R.new fun tb htb=>?_
 repeat refine W ?_
 refine R.c (fun w' h'=>Uh _ w') ?_
 repeat refine W ?_
 refine V.end fun w' h'=>?_;exact⟨rfl,h'.1.below⟩
end Ea
def whR:BR->BR
 | .ok t []=>.ok t []
 | .ok _ (x::_)=>.bad x.no 92
 | b=>b
def Yl (n:Nat) (es:List En):BR:=if es=[] then .ok DW [] else whR (AV n (-1) 1 es)
def whA (r:BR) (y:TY):Aj:=match r with
 | .ok t _=>Aq (As y) t
 | .bad _ _=>pr True
 | .out=>pr False
theorem Ahj {n:Nat} {es:List En} {t:Tr} {r:List En} (h:Yl n es=.ok t r):r=[]:=by
 unfold Yl at h;split at h
 ·injection h with _ h;exact h.symm
 ·cases hn:AV n (-1) 1 es with
  | ok t' r'=>
   rw[hn] at h;cases r' with
   | nil=>injection h with _ h;exact h.symm
   | cons x r'=>cases h
  | bad no e=>rw[hn] at h;cases h
  | out=>rw[hn] at h;cases h
theorem YA (n:Nat) (es:List En):H4 n es=Yw (Yl n es):=by
 unfold H4 Yl;split
 ·rfl
 ·cases AV n (-1) 1 es with
  | ok t r=>cases r<;>rfl
  | bad no e=>rfl
  | out=>rfl
section
variable {Wo:Gg} {n:Nat}
theorem SK (hn1:n<=1000000) (es:List Cn) (hes:FM Wo es) (hn:4*Ee (AE es)+2<=n) (rb:Nat) (w:Y) (hB:Blw Wo w):
  BT Tryz.prog 72 #[.pointer (F ⟨rb,0,O⟩)] w (Dq rb es) (BnW Wo) (fun y:TY=>brV (Yl n (AE es)) y) (fun y=>whA (Yl n (AE es)) y):=by
 intro Fz hX hF hQ;have hle:=EH (AE es);rw[List.length_map] at hle;have hC:=fun(h:es≠[])=>(Ak6 Wo n hn1).1 (-1) 1 es hes h (by omega) hn rb;refine V.enter _ Tryz.func72 (Mem.startX hX hF) ?_
 repeat (first | refine W ?_ | refine R.new fun _ _=>?_)
 cases es with
 | nil=>
  refine R.c (fun w' h'=>Ep rb Fz w w' _ h' (by simp)) ?_
  repeat (first | refine W ?_ | refine R.new fun _ _=>?_)
  refine V.eA fun w' h'=>?_;exact⟨EO A4,rfl,Mem.toW (Mem.sel (Mem.tree0 (k:=0) (nm:=⟨#[]⟩) (x:=A4) h'))⟩
 | cons x r=>
  have hC:=hC (by simp);rw[List.length_cons] at hle;have hlen:(x::r).length<=1000000:=by rw[List.length_cons];omega
  refine R.c (fun w' h'=>DA rb x r Fz w w' _ h' (by simp) hlen) ?_;rw[show Yl n (AE (x::r))=whR (AV n (-1) 1 (AE (x::r))) from if_neg (by simp)];have hl2:∀ t rest,AV n (-1) 1 (AE (x::r))=.ok t rest->rest.length<=1000000:=fun t rest h=>by
   have h1:=((H3 n).1 _ _ _ _ _ _ h).length_le;rw[List.length_map] at h1;omega
  generalize AV n (-1) 1 (AE (x::r))=res at hC hl2 |-
  repeat (first | refine W ?_ | refine R.new fun _ _=>?_)
  refine R.cq (fun w' h'=>hC w' (hB.ext hQ h'.1)) (fun G hG=>hB.of hQ G hG) (fun y=>?_);iterate 3 refine W ?_
  refine R.new fun b6 h6=>?_;iterate 3 refine W ?_
  cases res with
  | out=>exact V.know (p:=False) (fun w' h'=>let ⟨_,h1,_⟩:=h'.has (X:=pr False) (by simp[Sj]);h1) (fun h=>h.elim)
  | bad no e=>
   unfold XU MC Sj whR whA;refine V.us (B:=[Dq rb y.2,pr (y.2.length<=1000000)]) ?_;refine V.prop (p:=y.2.length<=1000000) (fun hl=>?_) (hp:=.tail _ (.head _))
   repeat refine W ?_
   obtain⟨y1,y2⟩:=y;cases y2 with
   | nil=>
    refine R.c (fun w' h'=>Ep rb Fz w w' _ h' (by simp)) ?_
    repeat (first | refine W ?_ | refine R.new fun _ _=>?_)
    refine V.eA fun w' h'=>?_;exact⟨y1,rfl,Mem.toW (h'.pr (p:=True) trivial).sel⟩
   | cons x2 r2=>
    refine R.c (fun w' h'=>DA rb x2 r2 Fz w w' _ h' (by simp) hl) ?_
    repeat (first | refine W ?_ | refine R.new fun _ _=>?_)
    refine V.eA fun w' h'=>?_;exact⟨y1,rfl,Mem.toW (h'.pr (p:=True) trivial).sel⟩
  | ok t rest=>
   unfold XU Sj;refine V.us (B:=[Dq rb y.2,Aq (As y.1) t,pr (AE y.2=rest/\FM Wo y.2)]) ?_;refine V.prop (p:=AE y.2=rest/\FM Wo y.2) (fun hp=>?_) (hp:=.tail _ (.tail _ (.head _)));have hl:=hl2 t rest rfl;obtain⟨y1,y2⟩:=y;obtain⟨hp1,hp2⟩:=hp
   repeat refine W ?_
   cases y2 with
   | nil=>
    obtain rfl:rest=[]:=hp1.symm;refine R.c (fun w' h'=>Ep rb Fz w w' _ h' (by simp)) ?_
    repeat (first | refine W ?_ | refine R.new fun _ _=>?_)
    refine V.eA fun w' h'=>?_;exact⟨y1,rfl,Mem.toW h'.sel⟩
   | cons x2 r2=>
    obtain rfl:rest=x2.1::AE r2:=hp1.symm;rw[List.length_cons,List.length_map] at hl;refine R.c (fun w' h'=>DA rb x2 r2 Fz w w' _ h' (by simp) (by rw[List.length_cons];exact hl)) ?_
    repeat (first | refine W ?_ | refine R.new fun _ _=>?_)
    refine R.c (fun w' h'=>Bk x2.1.no x2.1.col x2.2.1 x2.1.l.length x2.2.2 92 w') ?_
    repeat refine W ?_
    refine V.eA fun w' h'=>?_;exact⟨y1,rfl,Mem.toW (h'.pr (p:=True) trivial).sel⟩
end
end
section
set_option maxRecDepth 100000
set_option maxHeartbeats 4000000
attribute [local go_sem] Oper.semAt_some GA D4
def Ok (x:List Tk×Nat×Nat) (w:Y) (e:Ending) (w':Y):Prop:=
 ∃ v,e=.returned (.tuple #[v,I J x.2.1,I J x.2.2])/\FP w' v x.1/\(∀ A n c,v=Z A n c->n<=c)/\(∀ b o l c,v=Z (F ⟨b,o,O⟩) l c->0<l->w.heap.size<=b)/\Below w.heap.size w w'
theorem OO (N:Nat):∀ b o l c,Value.slice O 0 0=Z (F ⟨b,o,O⟩) l c->0<l->N<=b:=by
 intro b o l c h;injection h with h;cases h
theorem Ub (s:ByteArray) (w:Y) (hs:s.size<=1000000) (hv:validD s.data.toList=false) (hT:Bf w):
  Calls Tryz.prog 109 #[Q s] w (Ok ([],0,40) w):=by
 have hR:=fun wx hx=>B2 s wx hs hx;rw[hv] at hR;clear hv;refine(callsIn_wide (n:=0)).1 ?_;refine callsIn_of_wp_marks Tryz.func109 rfl trivial ?_ rfl;refine wpIn_wide.2 ?_;simp only[Tryz.ntmps109,List.size_toArray,List.length_cons,List.length_nil,Nat.reduceAdd,Nat.reduceSub,Array.replicate_succ,Array.replicate_zero,List.push_toArray,List.append_toArray,List.nil_append,List.cons_append]
 obtain⟨N,hN⟩:∃ N,w.heap.size=N:=⟨_,rfl⟩
 have hb0:Below N w (((w.alloc (.cells #[Z O 0 0] 215)).alloc (.cells #[I J 0] 3)).alloc (.cells #[I J 0] 27)):=(((Bq N w).alloc (by omega) _).alloc (by simp;omega) _).alloc (by simp;omega) _;go_wp2_with fail;refine(hR _ (hT.below (hN▸hb0))).mono ?_;rintro e w1 ⟨rfl,hb1⟩;obtain⟨b0,b1,b2⟩:=FS w 215 3 27 (Z O 0 0) (I J 0) (I J 0);rw[hN] at b0 b1 b2;replace b0:=Ab b0 hb1;replace b1:=Ab b1 hb1;replace b2:=Ab b2 hb1;have hb2:=hb0.trans (hb1.mono (by have:=hb0.size;omega));have c0:=b0.cell;have f0:=b0.frozen;have c1:=b1.cell;have f1:=b1.frozen;have c2:=b2.cell;have f2:=b2.frozen;go_wp2;obtain⟨e1,e2,e3,hb3⟩:=TV hb2 b0 b1 b2 (by omega) (Z O 0 0) (I J 0) (I J 40);refine⟨.tuple #[Z O 0 0,I J 0,I J 40],by simp[results,Tryz.f109,go_sem,e1,e2,e3],?_⟩;exact⟨_,rfl,FP.nil _,O2,OO _,by rw[hN];exact hb3⟩
theorem Ry (s:ByteArray) (w:Y) (hs:s.size<=1000000) (hv:validD s.data.toList=true) (hp:(AJ s.data.toList).all An=false) (hT:Bf w):
  Calls Tryz.prog 109 #[Q s] w (Ok ([],0,80) w):=by
 have hR:=fun wx hx=>B2 s wx hs hx;rw[hv] at hR;clear hv;have hC:=fun wx=>Tryz.strings_ContainsFunc_grows 147 #[] (enters_of Tryz.func147 (by kernel_rfl) rfl) Ew s wx (IY wx);rw[Nn,hp] at hC;clear hp;refine(callsIn_wide (n:=0)).1 ?_;refine callsIn_of_wp_marks Tryz.func109 rfl trivial ?_ rfl;refine wpIn_wide.2 ?_;simp only[Tryz.ntmps109,List.size_toArray,List.length_cons,List.length_nil,Nat.reduceAdd,Nat.reduceSub,Array.replicate_succ,Array.replicate_zero,List.push_toArray,List.append_toArray,List.nil_append,List.cons_append]
 obtain⟨N,hN⟩:∃ N,w.heap.size=N:=⟨_,rfl⟩
 have hb0:Below N w (((w.alloc (.cells #[Z O 0 0] 215)).alloc (.cells #[I J 0] 3)).alloc (.cells #[I J 0] 27)):=(((Bq N w).alloc (by omega) _).alloc (by simp;omega) _).alloc (by simp;omega) _;go_wp2_with fail;refine(hR _ (hT.below (hN▸hb0))).mono ?_;rintro e w1 ⟨rfl,hb1⟩;obtain⟨b0,b1,b2⟩:=FS w 215 3 27 (Z O 0 0) (I J 0) (I J 0);rw[hN] at b0 b1 b2;replace b0:=Ab b0 hb1;replace b1:=Ab b1 hb1;replace b2:=Ab b2 hb1;have hb2:=hb0.trans (hb1.mono (by have:=hb0.size;omega));go_wp2_with fail;refine(hC _).mono ?_;rintro e w2 ⟨rfl,hb3⟩;replace b0:=Ab b0 hb3;replace b1:=Ab b1 hb3;replace b2:=Ab b2 hb3;have hb4:=hb2.trans (hb3.mono (by have:=hb2.size;omega));clear hb2 hb3 hC hR;have c0:=b0.cell;have f0:=b0.frozen;have c1:=b1.cell;have f1:=b1.frozen;have c2:=b2.cell;have f2:=b2.frozen;go_wp2;obtain⟨e1,e2,e3,hb5⟩:=TV hb4 b0 b1 b2 (by omega) (Z O 0 0) (I J 0) (I J 80);refine⟨.tuple #[Z O 0 0,I J 0,I J 80],by simp[results,Tryz.f109,go_sem,e1,e2,e3],?_⟩;exact⟨_,rfl,FP.nil _,O2,OO _,by rw[hN];exact hb5⟩
theorem RG (s:ByteArray) (w:Y) (hs:s.size<=100000) (hv:validD s.data.toList=true) (hp:(AJ s.data.toList).all An=true) (hT:Bf w) (hE:Gc w):
  Calls Tryz.prog 109 #[Q s] w (Ok (Iq (BH s.data.toList 0 0) []) w):=by
 have hR:=fun wx hx=>B2 s wx (by omega) hx;rw[hv] at hR;have hC:=fun wx=>Tryz.strings_ContainsFunc_grows 147 #[] (enters_of Tryz.func147 (by kernel_rfl) rfl) Ew s wx (IY wx);rw[Nn,hp] at hC;clear hp;have hit:=fun R Bb n₀ (hN:w.heap.size<=n₀) (hR0:w.heap.size<=R) (hB:w.heap.size<=Bb) (hne:Bb≠R)=>OB s R Bb n₀ w hT hN hR0 hB hne (by omega) hv;obtain⟨ps,hps⟩:∃ ps,BH s.data.toList 0 0=ps:=⟨_,rfl⟩
 have hpl:ps.length<=s.size:=by rw[<- hps];have:=IW hv (s.data.toList.length+1 - 0) 0 0;unfold BH;rw[Lib.size_eq];omega
 rw[hps] at hit |-;have HPL:=hid hpl;have HIT:=hid hit;clear hpl hps hit hv;refine(callsIn_wide (n:=0)).1 ?_;refine callsIn_of_wp_marks Tryz.func109 rfl trivial ?_ rfl;refine wpIn_wide.2 ?_;simp only[Tryz.ntmps109,List.size_toArray,List.length_cons,List.length_nil,Nat.reduceAdd,Nat.reduceSub,Array.replicate_succ,Array.replicate_zero,List.push_toArray,List.append_toArray,List.nil_append,List.cons_append]
 obtain⟨N,hN⟩:∃ N,w.heap.size=N:=⟨_,rfl⟩
 have hb0:Below N w (((w.alloc (.cells #[Z O 0 0] 215)).alloc (.cells #[I J 0] 3)).alloc (.cells #[I J 0] 27)):=(((Bq N w).alloc (by omega) _).alloc (by simp;omega) _).alloc (by simp;omega) _;go_wp2_with fail;refine(hR _ (hT.below (hN▸hb0))).mono ?_;rintro e w1 ⟨rfl,hb1⟩;obtain⟨b0,b1,b2⟩:=FS w 215 3 27 (Z O 0 0) (I J 0) (I J 0);rw[hN] at b0 b1 b2;replace b0:=Ab b0 hb1;replace b1:=Ab b1 hb1;replace b2:=Ab b2 hb1;have hb2:=hb0.trans (hb1.mono (by have:=hb0.size;omega));clear hb0 hb1 hR;go_wp2_with fail;refine(hC _).mono ?_;rintro e w2 ⟨rfl,hb3⟩;replace b0:=Ab b0 hb3;replace b1:=Ab b1 hb3;replace b2:=Ab b2 hb3;have hb4:=hb2.trans (hb3.mono (by have:=hb2.size;omega));clear hb2 hb3 hC;obtain⟨M,hM⟩:∃ M,w2.heap.size=M:=⟨_,rfl⟩
 have hNM:N+1+1<M:=by have:=b2.lt;omega
 have hb5:Below N w ((w2.alloc (.cells #[Z O 0 0] 215)).alloc (.cells #[Q s,I J 0,I J 0] 282)):=(hb4.alloc (by have:=hb4.size;omega) _).alloc (by have:=hb4.size;simp;omega) _;have bo:Boxed ((w2.alloc (.cells #[Z O 0 0] 215)).alloc (.cells #[Q s,I J 0,I J 0] 282)) M 215 (Z O 0 0):=by rw[<- hM];exact(Boxed.new w2 _ _).alloc _
 have hr:RA ((w2.alloc (.cells #[Z O 0 0] 215)).alloc (.cells #[Q s,I J 0,I J 0] 282)) (M+1) s 0 0:=by
  have:=Wn (w2.alloc (.cells #[Z O 0 0] 215)) (.cells #[Q s,I J 0,I J 0] 282);rw[World.size_alloc,hM] at this;exact this
 replace b0:=(b0.alloc (.cells #[Z O 0 0] 215)).alloc (.cells #[Q s,I J 0,I J 0] 282);replace b1:=(b1.alloc (.cells #[Z O 0 0] 215)).alloc (.cells #[Q s,I J 0,I J 0] 282);replace b2:=(b2.alloc (.cells #[Z O 0 0] 215)).alloc (.cells #[Q s,I J 0,I J 0] 282);have hz3:((w2.alloc (.cells #[Z O 0 0] 215)).alloc (.cells #[Q s,I J 0,I J 0] 282)).heap.size=M+1+1:=by simp[hM]
 obtain⟨w3,hw3⟩:∃ w3,(w2.alloc (.cells #[Z O 0 0] 215)).alloc (.cells #[Q s,I J 0,I J 0] 282)=w3:=⟨_,rfl⟩
 rw[hw3] at hb5 b0 b1 b2 bo hr hz3;have HW3:=hid hw3;clear hw3 hb4;go_wp2_with fail;refine(Px (M+1) _).mono ?_;rintro e w4 ⟨rfl,hw4⟩;rw[show(w2.alloc (.cells #[Z O 0 0] 215)).alloc (.cells #[Q s,I J 0,I J 0] 282)=w3 from HW3.out] at hw4 |-;rw[hz3];have hz4:w4.heap.size=M+1+1+1:=by rw[hw4];simp[hz3]
 have hBox:Boxed w4 (M+1+1) 278 (.pointer (F ⟨M+1,0,O⟩)):=by rw[hw4,<- hz3];exact Boxed.new _ _ _
 have hb6:Below N w w4:=by rw[hw4];exact hb5.alloc (by have:=hb5.size;omega) _
 replace hr:RA w4 (M+1) s 0 0:=by rw[hw4];exact hr.alloc _
 replace bo:Boxed w4 M 215 (Z O 0 0):=by rw[hw4];exact bo.alloc _
 replace b0:Boxed w4 N 215 (Z O 0 0):=by rw[hw4];exact b0.alloc _
 replace b1:Boxed w4 (N+1) 3 (I J 0):=by rw[hw4];exact b1.alloc _
 replace b2:Boxed w4 (N+1+1) 27 (I J 0):=by rw[hw4];exact b2.alloc _
 clear hw4 hb5;go_wp2;refine(wpIn_wide (n:=0)).1 ?_;refine Me (gf:=186) (lb:=#[.pointer (F ⟨M+1+1,0,O⟩)]) rfl (enters_of Tryz.func186 (by kernel_rfl) rfl) (HIT.out (M+1) (M+1+1) N (by omega) (by omega) (by omega) (by omega))
  (fun Yz hY=>⟨hr.below hY,Ab hBox hY,hN▸hb6.trans (hY.mono (by have:=hb6.size;omega))⟩) (fun k hk=>by omega) (by omega) (fun x=>by cases x<;>rfl)
  (fun pre W=>∃ v ts,Hid (Ds pre=O/\ts=pre.map WZ)/\Boxed W M 215 v/\Gp W (M+1) v ts/\AT W (M+1) 282/\AT W (M+1+1) 278/\Boxed W N 215 (Z O 0 0)/\Boxed W (N+1) 3 (I J 0)/\Boxed W (N+1+1) 27 (I J 0)/\Below N w W/\M+1+1<W.heap.size)
  (fun co pre W=>co=.ret/\∃ p e:Nat,Hid (Iq ps []=([],p,e))/\Boxed W N 215 (Z O 0 0)/\Boxed W (N+1) 3 (I J p)/\Boxed W (N+1+1) 27 (I J e)/\Below N w W)
  ?hI ?hIx ?hbad ⟨Z O 0 0,[],hid ⟨rfl,rfl⟩,bo,⟨rfl,.inl ⟨rfl,rfl⟩⟩,⟨_,_,hr⟩,⟨_,_,hBox⟩,b0,b1,b2,hb6,by omega⟩ ?round ?done ?stop
 case hI=>
  rintro pre X Yz ⟨v,ts,h1,h2,h3,k1,k2,h4,h5,h6,h7,h8⟩ ht;exact⟨v,ts,h1,Ad h2 ht (by omega),h3.turn ht (fun k hk=>by rcases hk with rfl | rfl;exact⟨_,by decide,k2⟩;exact⟨_,by decide,k1⟩),k1.turn ht,k2.turn ht,
   Ad h4 ht (by omega),Ad h5 ht (by omega),Ad h6 ht (by omega),ht.below h7 (fun k hk=>by omega) (by omega) (by omega),Nat.lt_of_lt_of_le h8 ht.size⟩
 case hIx=>
  rintro co pre X Yz ⟨h1,p,e,h2,h3,h4,h5,h6⟩ ht;exact⟨h1,p,e,h2,Ad h3 ht (by omega),Ad h4 ht (by omega),Ad h5 ht (by omega),ht.below h6 (fun k hk=>by omega) (by omega) (by omega)⟩
 case hbad=>
  rintro pre X hb ⟨v,ts,h1,_⟩;exact hb h1.out.1
 case round=>
  rintro l pre x W hl ⟨v,ts,h1,h2,h3,k1,k2,h4,h5,h6,h7,h8⟩ hpre;have HPR:=hid hpre;clear hpre;cases x with
  | tok k t p=>
   unfold Yi BG
   gi_wp2
   refine⟨Ae.alloc W _,fun Wb ht _=>?_⟩;have hta:Ah (fun k=>k=M+1+1\/k=M+1) w4.heap.size W Wb:=(Ah.alloc W _).trans ht;have hTB:Wb.heap[W.heap.size]? =F (.cells #[I J k,Q ⟨t.toArray⟩,I J p] 287):=ht.heap (Wn W _) (fun hc=>by omega) rfl;have hkp:Ae Ar (fun k=>k=M+1+1\/k=M+1) N Wb Wb:=Ae.refl _ _ _ _;have hkC:∀ j,(j=M+1+1\/j=M+1)->∃ T,T≠287/\AT W j T:=fun j hj=>by rcases hj with rfl | rfl;exact⟨_,by decide,k2⟩;exact⟨_,by decide,k1⟩
   replace h2:=Ad h2 hta (by omega);replace h3:=h3.turn hta hkC;replace h4:=Ad h4 hta (by omega);replace h5:=Ad h5 hta (by omega);replace h6:=Ad h6 hta (by omega);replace h7:=hta.below h7 (fun k hk=>by omega) (by omega) (by omega);replace k1:=k1.turn hta;replace k2:=k2.turn hta;have hWz:W.heap.size<=Wb.heap.size:=hta.size;replace h8:=Nat.lt_of_lt_of_le h8 hta.size;clear ht hta hkC;obtain⟨i0,hi,hz0,hz1,hz2⟩:=info_parts Aa6;have hu:Tryz.prog.underlying 215=F (.slice 287):=by kernel_rfl
   have HU:=hid hu;clear hu;obtain⟨t0,t1,t2,_⟩:=DU hTB;have c1:=h2.cell;have f1:=h2.frozen;have hTl:W.heap.size<Wb.heap.size:=(Gl hTB)
   have hMl:M<Wb.heap.size:=by omega
   have htl:ts.length<=100000:=by
    have e1:=HPR.out.length_le;have e2:=HPL.out;rw[h1.out.2,List.length_map];simp at e1;omega
   have hown0:Wb.ownsRow (M+1) 287 3 v ts.length (ts.flatMap BQ):=h3
   gi_wp2_with (first
    | (gi_at_builtin;refine wpListIn_append_own _ rfl _ _ 215 rfl (M+1) 287 i0 (.agg #[I J 0,Q ⟨#[]⟩,I J 0]) 3 32 HU.out hi hz0 hz1 hz2 rfl (by decide) _ _ _ rfl (hown0.alloc _) ⟨Wb.heap.size,0,O⟩ 1 1 [I J k,Q ⟨t.toArray⟩,I J p] rfl rfl ?c1 ?c2 ?c3 ?c4 ?c5 ?_))
   case c1=>
    intro j u hj
    match j,hj with
    | 0,hj=>simp at hj;subst hj;simp[Addr.add]
    | 1,hj=>simp at hj;subst hj;simp[Addr.add]
    | 2,hj=>simp at hj;subst hj;simp[Addr.add]
   case c2=>intro u hu;simp at hu;rcases hu with rfl | rfl | rfl<;>rfl
   case c3=>unfold maxLen;omega
   case c4=>omega
   case c5=>simp;omega
   intro v' w5 hown hgrow _;obtain⟨q1,q2,q3,q4,q5,q6,q7⟩:=Acy (C:=fun k=>k=M+1+1\/k=M+1) (N:=N) (M:=M) (x:=⟨k,t,p⟩) (by omega) (by omega) (by omega) (by omega) h2 h3 (fun j hj=>by rcases hj with rfl | rfl;exact⟨_,by decide,k2⟩;exact⟨_,by decide,k1⟩) hown hgrow;have FIN:=hid (show Ae Ar (fun k=>k=M+1+1\/k=M+1) N Wb (w5.setCell ⟨M,0,O⟩ v')/\∃ v ts,Hid (Ds (pre++[TP.tok k t p])=O/\ts=(pre++[TP.tok k t p]).map WZ)/\Boxed (w5.setCell ⟨M,0,O⟩ v') M 215 v/\Gp (w5.setCell ⟨M,0,O⟩ v') (M+1) v ts/\AT (w5.setCell ⟨M,0,O⟩ v') (M+1) 282/\AT (w5.setCell ⟨M,0,O⟩ v') (M+1+1) 278/\Boxed (w5.setCell ⟨M,0,O⟩ v') N 215 (Z O 0 0)/\Boxed (w5.setCell ⟨M,0,O⟩ v') (N+1) 3 (I J 0)/\Boxed (w5.setCell ⟨M,0,O⟩ v') (N+1+1) 27 (I J 0)/\Below N w (w5.setCell ⟨M,0,O⟩ v')/\M+1+1<(w5.setCell ⟨M,0,O⟩ v').heap.size from
    ⟨q1,v',ts++[⟨k,t,p⟩],hid ⟨by rw[Lo];exact h1.out.1,by rw[List.map_append,h1.out.2];rfl⟩,q2,q3,q7 _ _ (by decide) (by omega) k1,q7 _ _ (by decide) (by omega) k2,q6 N _ _ (by decide) (by omega) h4,q6 (N+1) _ _ (by decide) (by omega) h5,q6 (N+1+1) _ _ (by decide) (by omega) h6,q1.below h7 Nr (by omega),Nat.lt_of_lt_of_le h8 q1.size⟩)
   obtain⟨g,cap,rfl⟩:∃ g cap,v'=Z (F ⟨g,0,O⟩) (ts.length+1) cap:=by
    rcases hown.2 with ⟨_,h0⟩ | ⟨g,cap,cur,hv,_⟩
    ·omega
    ·exact⟨g,cap,hv⟩
   clear q1 q2 q3 q6 q7 hown hgrow h1 h2 h3 k1 k2 h4 h5 h6 h7 hown0 c1 f1 t0 t1 t2 hTB
   gi_wp2
   exact FIN.out
  | bad er p=>
   have HF:=hid (show Iq ps []=([],p,er) by
    obtain⟨rest,hrest⟩:=HPR.out;rw[<- hrest,Io,List.append_assoc,Lg _ _ h1.out.1];rfl)
   unfold Yi
   gi_wp2
   refine⟨Ae.alloc W _,fun Wb ht _=>?_⟩;have hta:Ah (fun k=>k=M+1+1\/k=M+1) w4.heap.size W Wb:=(Ah.alloc W _).trans ht;have hTB:Wb.heap[W.heap.size]? =F (.cells #[I J 0,Q ⟨#[]⟩,I J p] 287):=ht.heap (Wn W _) (fun hc=>by omega) rfl;replace h4:=Ad h4 hta (by omega);replace h5:=Ad h5 hta (by omega);replace h6:=Ad h6 hta (by omega);replace h7:=hta.below h7 (fun k hk=>by omega) (by omega) (by omega);have hWz:W.heap.size<=Wb.heap.size:=hta.size;have hTl:W.heap.size<Wb.heap.size:=(Gl hTB)
   have STR:=CallsIn.inRound l ((callsIn_wide (n:=0)).2 (Zv er Wb.drew ((hE.below (hN▸h7)).below (Bq _ _).drew)));have fin:∀ w5,Below Wb.heap.size Wb w5->w5.cell? ⟨W.heap.size,2,O⟩=F (I J p)/\Boxed w5 N 215 (Z O 0 0)/\Boxed w5 (N+1) 3 (I J 0)/\Boxed w5 (N+1+1) 27 (I J 0)/\Below N w w5/\W.heap.size<w5.heap.size/\Ae Ar (fun k=>k=M+1+1\/k=M+1) N Wb w5:=fun w5 hb=>
    ⟨(DU (Ay hTB hb)).2.2.1,Ab h4 hb,Ab h5 hb,Ab h6 hb,h7.trans (hb.mono (by omega)),Nat.lt_of_lt_of_le hTl hb.size,Ae.of_below hb⟩
   have FIN:=hid fin;have t2:=(DU hTB).2.2.1;have c1:=h4.cell;have f1:=h4.frozen;have c2:=h5.cell;have f2:=h5.frozen;have c3:=h6.cell;have f3:=h6.frozen;have hd1:W.heap.size≠N:=by omega
   have hd2:W.heap.size≠N+1:=by omega
   have hd3:W.heap.size≠N+1+1:=by omega
   clear fin h1 h2 h3 k1 k2 ht hta hTB h4 h5 h6 h7
   gi_wp2
   gi_region_with ((gi_at_call 149;refine STR.mono ?_;rintro e w5 ⟨rfl,hb⟩;obtain⟨e0,e1,e2,e3,e4,e5,e6⟩:=FIN.out w5 ⟨hb.os,hb.tape,hb.output,hb.size,hb.block⟩;have cc1:=e1.cell;have ff1:=e1.frozen;have cc2:=e2.cell;have ff2:=e2.frozen;have cc3:=e3.cell;have ff3:=e3.frozen))
   all_goals (gi_wp2;exact(by
    obtain⟨q1,q2,q3,q4⟩:=ET (C:=fun k=>k=M+1+1\/k=M+1) e1 e2 e3 (by omega) (by omega) (by omega) (Z O 0 0) (I J p) (I J er);exact⟨e6.trans q1,rfl,p,er,HF,q2,q3,q4,((e4.setCell (p:=⟨N,0,O⟩) (by simp) _).setCell (p:=⟨N+1,0,O⟩) (by simp) _).setCell (p:=⟨N+1+1,0,O⟩) (by simp;omega) _⟩))
 case done=>
  rintro D W hD ⟨v,ts,h1,h2,h3,k1,k2,h4,h5,h6,h7,h8⟩ hK;obtain⟨A,cap,rfl⟩:∃ A cap,v=Z A ts.length cap:=by
   rcases h3.2 with ⟨hv,h0⟩ | ⟨g,cap,cur,hv,_⟩
   ·exact⟨O,0,by rw[hv,h0]⟩
   ·exact⟨_,cap,hv⟩
  have c2:=h2.cell;have f2:=h2.frozen;have c3:=h4.cell;have f3:=h4.frozen;have c4:=h5.cell;have f4:=h5.frozen;have c5:=h6.cell;have f5:=h6.frozen;have HF:=hid (show Iq ps []=(ts,0,0) by rw[Io,h1.out.1,h1.out.2];rfl);clear h1 k1 k2;have hne:M≠N:=by omega
  have hne1:M≠N+1:=by omega
  have hne2:M≠N+1+1:=by omega
  go_wp2;have hK':(((W.setCell ⟨N,0,O⟩ (Z A ts.length cap)).setCell ⟨N+1,0,O⟩ (I J 0)).setCell ⟨N+1+1,0,O⟩ (I J 0)).heap[D]? =F (.deferred (F [])):=(KeepsOthers.setCell _ _ _).same D _ ((KeepsOthers.setCell _ _ _).same D _ ((KeepsOthers.setCell W ⟨N,0,O⟩ _).same D _ hK rfl) rfl) rfl;refine⟨by simp,.inl ⟨_,_,rfl,run_takeDeferred hK',?_⟩⟩;have d1:=(Au (Ag (Ag (h4.set (Z A ts.length cap)) (show N≠N+1 by simp) (I J 0)) (show N≠N+1+1 by simp;omega) (I J 0)) hK' (.deferred O)).cell;have d2:=(Au (Ag ((Ag h5 (show N+1≠N by simp) (Z A ts.length cap)).set (I J 0)) (show N+1≠N+1+1 by simp) (I J 0)) hK' (.deferred O)).cell;have d3:=(Au ((Ag (Ag h6 (show N+1+1≠N by simp;omega) (Z A ts.length cap)) (show N+1+1≠N+1 by simp) (I J 0)).set (I J 0)) hK' (.deferred O)).cell;refine⟨.tuple #[Z A ts.length cap,I J 0,I J 0],by simp[results,Tryz.f109,go_sem,d1,d2,d3],?_⟩;rw[HF.out];refine⟨_,rfl,Gp.sl (B:=M+1) (Gp.keep h3 (fun j c hj=>?_)),h3.cap,?_,?_⟩
  ·refine(World.putObj_heap_other (fun e=>by subst e;rw[hK] at hj;cases hj)).trans ?_;exact(Bh _ ⟨N+1+1,0,O⟩ _ j (Tb hj h6 (by decide))).trans ((Bh _ ⟨N+1,0,O⟩ _ j (Tb hj h5 (by decide))).trans ((Bh W ⟨N,0,O⟩ _ j (Tb hj h4 (by decide))).trans hj))
  ·intro b o l c hv hl;rcases h3.2 with ⟨hv2,h0⟩ | ⟨g,cap2,cur,hv2,hg,_⟩
   ·rw[hv2] at hv;cases hv
   ·rw[hv2] at hv;injection hv with e1;injection e1 with e1;injection e1 with e1 _;rw[hN];omega
  ·rw[hN];exact BP (((h7.setCell (p:=⟨N,0,O⟩) (by simp) _).setCell (p:=⟨N+1,0,O⟩) (by simp) _).setCell (p:=⟨N+1+1,0,O⟩) (by simp;omega) _) hK' (by omega) (by omega) _
 case stop=>
  rintro D co pre W hD hpre ⟨rfl,p,e,hx,h3,h4,h5,h6⟩ hK;refine wpIn_wide.2 ?_;go_wp2;refine⟨by simp,.inl ⟨_,_,rfl,run_takeDeferred hK,?_⟩⟩;have d1:=(Au h3 hK (.deferred O)).cell;have d2:=(Au h4 hK (.deferred O)).cell;have d3:=(Au h5 hK (.deferred O)).cell;refine⟨.tuple #[Z O 0 0,I J p,I J e],by simp[results,Tryz.f109,go_sem,d1,d2,d3],?_⟩;rw[hx.out];refine⟨_,rfl,FP.nil _,O2,OO _,?_⟩;rw[hN];exact BP h6 hK (by omega) (by omega) _
theorem SF (s:ByteArray) (w:Y) (hs:s.size<=100000) (hT:Bf w) (hE:Gc w):
  Calls Tryz.prog 109 #[Q s] w (Ok (Bu s.data.toList) w):=by
 unfold Bu;cases hv:validD s.data.toList with
 | false=>exact Ub s w (by omega) hv hT
 | true=>
  rw[if_pos rfl];cases hp:(AJ s.data.toList).all An with
  | false=>exact Ry s w (by omega) hv hp hT
  | true=>exact RG s w hs hv hp hT hE
end
end Go.Proofs.YtdpppepmkeinaaaGreatDoor
