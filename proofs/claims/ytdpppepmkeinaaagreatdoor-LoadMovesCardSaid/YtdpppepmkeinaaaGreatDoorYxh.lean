/- What is proved: a part of the walk of the program and of its plain laws; no condition beside those that each theorem names. -/
import Derived.Test.YtdpppepmkeinaaaGreatDoorYxg
import Derived.Test.YtdpppepmkeinaaaGreatDoorYxf
import Derived.Test.YtdpppepmkeinaaaGreatDoorYxb
import Derived.Test.YtdpppepmkeinaaaGreatDoorYa
namespace Go.Proofs.YtdpppepmkeinaaaGreatDoor
open Go Go.RowKit Go.Lib
open Go.Value renaming int->I,string->Q,slice->Z
open Go.IntKind renaming i64->J
open Option renaming none->O,some->F
open _root_.Go renaming World->Y
set_option linter.unusedSimpArgs false
set_option linter.unusedVariables false
set_option linter.unusedSectionVars false
section
set_option maxHeartbeats 32000000
set_option maxRecDepth 100000
def kyB (x:Ig):Sc:=(EA x.1.1.l).1
theorem Aie (col:Int) (d:Nat):Ain col .key (fun m x r=>prR m (d+1) x r) (fun m l xs=>AL m col d l (xs.map kyB) (xs.map Jj)) (fun xs=>BT (xs.map kyB) (xs.map Jj)) where
 e m xs:=by rw[AL]
 x m x r xs h:=by rw[AL];exact if_neg h
 b m x r xs no e h1 h2 h:=by
  rw[AL,if_pos ⟨h1,h2⟩];unfold prR at h;split at h<;>rename_i hk
  ·rw[if_pos hk];exact h
  ·rw[if_neg hk,h];rfl
 o m x r xs z t rest h1 h2 h3 h4 h5:=by
  rw[AL,if_pos ⟨h1,h2⟩];rw[h5] at h4;unfold prR at h4;split at h4<;>rename_i hk
  ·cases h4
  ·rw[if_neg hk,<- h4,List.map_append,List.map_append,List.map_singleton,List.map_singleton,show Jj z=t by unfold Jj;rw[h5],show kyB z=(EA x.l).1 by unfold kyB;rw[h3]];rfl
 mu m x r t rest h:=by
  unfold prR at h;split at h
  ·cases h
  ·exact(suffix m).2.2.2.2.2.1 _ _ _ _ _ h
abbrev dqT (b n:Nat) (z:ZzP):Aw:=blk b [I J 2,Q ⟨#[]⟩,I J 0,I J 0,Q ⟨#[]⟩,Z z.1.1 n z.1.2,Z z.2.1 n z.2.2] 53
abbrev DqP:=ZzP×List TY
def ZT (xs:List Ig):List Value:=(xs.map kyB).flatMap Fl
def dqZ (b8:Nat) (pre:List Ig) (z:DqP):List Aw:=[pr (z.2.length=pre.length),star (CC (pre.map Jj) (z.2.map AM)),dqT b8 pre.length z.1,An 36 3 (Z z.1.1.1 pre.length z.1.1.2) pre.length (ZT pre),An 53 7 (Z z.1.2.1 pre.length z.1.2.2) pre.length (KM z.2)]
theorem Ajc {C:Nat->Prop} {w0 w:Y} {Zz:List Aw} {b8:Nat} {pre:List Ig} {x:D8} {r:List D8} {t:Tr} {rest:List En} {y:TY} {z:DqP} (h:Mem C w0 ([A9 (AM y) t,dqT b8 (pre.length+1) z.1,An 36 3 (Z z.1.1.1 (pre.length+1) z.1.1.2) (pre.length+1) (ZT pre++Fl (EA x.1.l).1),An 53 7 (Z z.1.2.1 (pre.length+1) z.1.2.2) (pre.length+1) (KM z.2++AM y),star (CC (pre.map Jj) (z.2.map AM))]++Zz) w) (hl:z.2.length=pre.length):
  Mem C w0 (JB (fun z=>star (dqZ b8 (pre++[(x,r,.ok t rest)]) z))::Zz) w:=by
 have h1:=FK (A:=CC (pre.map Jj) (z.2.map AM)) (B:=[A9 (AM y) t]) (Mem.pk h (.tl (.tl (.tl (.tl .hd)))));rw[<- Ik _ _ _ _ (by rw[List.length_map,List.length_map,hl])] at h1;have h2:=h1.pr (p:=(z.2++[y]).length=pre.length+1) (by rw[List.length_append,hl];rfl);refine Mem.toEx (z.1,z.2++[y]) (Mem.toStar ?_);unfold dqZ;rw[show(pre++[(x,r,BR.ok t rest)]).length=pre.length+1 by simp,show(pre++[(x,r,BR.ok t rest)]).map Jj=pre.map Jj++[t] by simp[Jj],List.map_append,show KM (z.2++[y])=KM z.2++AM y by unfold KM;simp,show ZT (pre++[(x,r,BR.ok t rest)])=ZT pre++Fl (EA x.1.l).1 by unfold ZT kyB;simp];exact h2
section
variable {Wo:I7} {n:Nat}
theorem YW (hn1:n<=1000000) (hB0:∀ m,m<n->Uo Wo m) (col:Int) (d:Nat) (es:List D8) (hes:H2 Wo es) (hd:d<=24) (hn:4*E4 (Bv es)+1<=n):BkC Wo es 152 [I J col,I J d] (AL n col d (Bv es) [] []):=by
 intro rb w hB Fz hX hF hQ;have hle:=G6 (Bv es);rw[List.length_map] at hle;have hR:=Aie col d;refine V.enter _ Tryz.func152 (Mem.startX hX hF) ?_;refine W ?_;refine R.new fun b3 h3=>?_;refine R.new fun b5 h5=>?_;refine R.new fun b6 h6=>?_;refine R.new fun b7 h7=>?_
 repeat refine W ?_
 refine R.new fun b8 h8=>?_
 repeat refine W ?_
 refine R.cf (fun w' h'=>To rb col _ _ w') (fun q=>?_);refine R.z ?_;have hI:=Ahe (Wo:=Wo) (es0:=Bv es) (col:=col) (bg:=.key) (step:=Ys (fun m x r=>prR m (d+1) x r) n) (.inr rfl) (fun i x r t rest h=>(hR.mu _ _ _ t rest h).length_le) (by rw[List.length_map];omega) rb q.1 q.2.1 q.2.2;refine V.range hI (fun pre=>[blk b3 [.pointer (F ⟨rb,0,O⟩)] 153,blk b5 [I J d] 3,Ut b6,blk b7 [.nilIface] 61,JB fun z=>star (dqZ b8 pre z)])
  (fun co pre=>[JB fun u:(TY×List D8)×Int×Int=>star [pr (co=.ret/\AL n col d (Bv es) [] []=.bad u.2.1 u.2.2/\u.1.2.length<=1000000),blk b6 (AM u.1.1) 53,blk b7 [Oq u.2.1 u.2.2] 61,E3 rb u.1.2]])
  (fun w' h=>?_) (fun w1 w2 G h hb hG=>⟨hB.ext hQ (h.1.trans (B4.of_below (C:=Fz) hb) (fun _ _ e=>e)),hB.of hQ G hG⟩) (fun r' pre x Wb C' T T' Rl hadm hx hC hmid=>?_) (fun D xs hfin=>?_) (fun D co xs=>?_)
 ·have h1:=N9 (Mem.sel h:Mem Fz w (E3 rb es::[blk q.1 [.pointer (F ⟨rb,0,O⟩)] 153,blk q.2.1 [I J col] 3,blk q.2.2 [TS .key] 290,blk b3 [.pointer (F ⟨rb,0,O⟩)] 153,blk b5 [I J d] 3,Ut b6,blk b7 [.nilIface] 61,dqT b8 0 ((O,0),(O,0))]) w') ⟨rfl,hes⟩;have h2:=(Mem.toStar (B:=[]) ((h1.ownNil 53 7).ownNil 36 3)).pr (p:=([]:List TY).length=([]:List Ig).length) rfl;have h3:=Mem.toEx (f:=fun z=>star (dqZ b8 [] z)) (((O,0),(O,0)),[]) (Mem.toStar (B:=[_,_,_,_,_]) (h2.sel:Mem Fz w [pr (([]:List TY).length=([]:List Ig).length),star [],dqT b8 0 ((O,0),(O,0)),An 36 3 (Z O 0 0) 0 [],An 53 7 (Z O 0 0) 0 [],enR Wo rb (Bv es),blk q.1 [.pointer (F ⟨rb,0,O⟩)] 153,blk q.2.1 [I J col] 3,blk q.2.2 [TS .key] 290,blk b3 [.pointer (F ⟨rb,0,O⟩)] 153,blk b5 [I J d] 3,Ut b6,blk b7 [.nilIface] 61] w'));exact h3.sel
 ·have hBb:=hB.ext hQ hx;have hQb:=hB.of hQ C' hC;obtain⟨hch,had⟩:=hadm;obtain⟨ht1,_⟩:=hch.told hR hn;rw[had.at_,AG] at ht1;obtain⟨m,hm⟩:∃ m,n - pre.length - 1=m+1:=⟨n - pre.length - 2,by omega⟩
  obtain⟨xp,r,rs⟩:=x;have ht1:4*(xp.1.l.length+1+E4 (Bv r))+1+pre.length<=n:=ht1;have hC1:=fun w1 (h:Ll Wo w1)=>Y1 (n:=m) (by omega) (hB0 m (by omega)) xp r (d+1) had.ok (by omega) (by show 4*E4 (xp.1::Bv r)<=m+1;rw[AG];omega) had.bg rb w1 h;rw[<- (show rs=prR (m+1) (d+1) xp.1 (Bv r) by rw[<- hm];exact had.st)] at hC1
  repeat (first | refine W ?_ | refine R.new fun _ _=>?_)
  refine V.mid hmid ?_;refine V.ux (f:=fun z=>star (dqZ b8 pre z)) (fun z=>?_);refine V.us (B:=[pr (z.2.length=pre.length),star (CC (pre.map Jj) (z.2.map AM)),dqT b8 pre.length z.1,An 36 3 (Z z.1.1.1 pre.length z.1.1.2) pre.length (ZT pre),An 53 7 (Z z.1.2.1 pre.length z.1.2.2) pre.length (KM z.2)]) ?_;refine V.prop (p:=z.2.length=pre.length) (fun hzl=>?_)
  repeat refine W ?_
  refine R.cq (fun w' h'=>hC1 w' (hBb.ext hQb h'.1)) (fun G hG=>hBb.of hQb G hG) (fun y=>?_);iterate 4 refine W ?_
  refine R.new fun b10 h10=>?_;refine R.new fun b11 h11=>?_;iterate 4 refine W ?_
  cases rs with
  | out=>exact V.know (p:=False) (fun w' h'=>let ⟨_,h1,_⟩:=h'.has (X:=pr False) (by simp[Uq]);h1) (fun h=>h.elim)
  | bad no e=>
   have hbad:=hch.bad hR hn had rfl;unfold Zr Oq Uq;refine V.us (B:=[E3 rb y.2,pr (y.2.length<=1000000)]) ?_;refine V.prop (p:=y.2.length<=1000000) (fun hl=>?_) (hp:=.tail _ (.head _))
   repeat refine W ?_
   refine V.pre (S':=Mem C' Wb [JB fun u:(TY×List D8)×Int×Int=>star [pr (Code.ret=.ret/\AL n col d (Bv es) [] []=.bad u.2.1 u.2.2/\u.1.2.length<=1000000),blk b6 (AM u.1.1) 53,blk b7 [Oq u.2.1 u.2.2] 61,E3 rb u.1.2],T']) ?_ (by intro w' h';exact Mem.toEx (((2,⟨#[]⟩,AJ,(z.1.1.1,pre.length,z.1.1.2),(z.1.2.1,pre.length,z.1.2.2)),y.2),no,e) (Mem.toStar (B:=[_,_,_,_]) (Mem.sel (h'.pr (p:=Code.ret=.ret/\AL n col d (Bv es) [] []=.bad no e/\y.2.length<=1000000) ⟨rfl,hbad,hl⟩))));exact V.rr
  | ok t rest=>
   unfold Zr Uq;refine V.us (B:=[E3 rb y.2,A9 (AM y.1) t,pr (Bv y.2=rest/\H2 Wo y.2)]) ?_;refine V.prop (p:=Bv y.2=rest/\H2 Wo y.2) (fun hy=>?_) (hp:=.tail _ (.tail _ (.head _)));iterate 5 refine W ?_
   have hpl:pre.length+1<=1000000:=by omega
   refine V.regT [3,4,8,9,10,11,12,13] [0,1,2,5,6,7] (Mem C' Wb [dqT b8 pre.length z.1,scB b10 (EA xp.1.l).1,blk b11 (AM y.1) 53]) ?_;iterate 6 refine Wz ?_
   refine Zz.last (ι:=(Nat×Nat)×(Nat×Nat)) (Si:=fun u=>Mem C' Wb ([A9 (AM y.1) t,dqT b8 (pre.length+1) ((F ⟨u.1.1,0,O⟩,u.1.2),(F ⟨u.2.1,0,O⟩,u.2.2)),An 36 3 (Z (F ⟨u.1.1,0,O⟩) (pre.length+1) u.1.2) (pre.length+1) (ZT pre++Fl (EA xp.1.l).1),An 53 7 (Z (F ⟨u.2.1,0,O⟩) (pre.length+1) u.2.2) (pre.length+1) (KM z.2++AM y.1),star (CC (pre.map Jj) (z.2.map AM)),E3 rb y.2,blk b3 [.pointer (F ⟨rb,0,O⟩)] 153,blk b5 [I J d] 3,Ut b6,blk b7 [.nilIface] 61,T'])) (li:=fun _=>[]) (fun hV=>?_) (fun u=>?_)
   ·refine Zz.fk 3 8 (T1:=[]) (R1:=[4,8,9,10,11,12,13]) (T2:=[3,4,10,9,11,12,13]) (R2:=[]) (d1:=by exact D.bs (m:=1)) (d2:=by exact D.bs (m:=1)) (h1:=fun bk=>?_) (h2:=fun bt=>?_);refine Zz.fk 4 8 (T1:=[10,8,9,11,12,13]) (R1:=[]) (T2:=[4,10,9,11,12,13]) (R2:=[]) (d1:=by exact D.app Y7 (k:=pre.length) (m:=1) (xs:=ZT pre) (news:=Fl (EA xp.1.l).1) (fun w' h'=>(Cs.of_blk (h'.blk (by repeat (first | exact List.Mem.head _ | apply List.Mem.tail)))).add) (by omega)) (d2:=by exact D.bs (m:=1)) (h1:=fun u1=>?_) (h2:=fun bt=>?_);refine Wz ?_;refine Zz.do (hd:=by exact D.bs (m:=1)) (h:=fun bt=>?_)
    rotate_left
    refine Zz.do (hd:=by exact D.app Y7 (k:=pre.length) (m:=1) (xs:=ZT pre) (news:=Fl (EA xp.1.l).1) (fun w' h'=>(Cs.of_blk (h'.blk (by repeat (first | exact List.Mem.head _ | apply List.Mem.tail)))).add) (by omega)) (h:=fun u1=>?_);refine Wz ?_
    rotate_left
    refine Zz.do (hd:=by exact D.bs (m:=1)) (h:=fun bk=>?_);refine Zz.do (hd:=by exact D.app Y7 (k:=pre.length) (m:=1) (xs:=ZT pre) (news:=Fl (EA xp.1.l).1) (fun w' h'=>(Cs.of_blk (h'.blk (by repeat (first | exact List.Mem.head _ | apply List.Mem.tail)))).add) (by omega)) (h:=fun u1=>?_);refine Wz ?_
    rotate_left
    all_goals
     refine Zz.do (hd:=by exact D.app elT (k:=pre.length) (m:=1) (xs:=KM z.2) (news:=AM y.1) (fun w' h'=>(Cs.of_blk (h'.blk (by repeat (first | exact List.Mem.head _ | apply List.Mem.tail)))).add) (by omega)) (h:=fun u2=>?_);replace hV:=hV (u1,u2);refine Zz.clr (Mem C' Wb []) (hd:=by exact D.st) (h:=fun _=>?_);refine Wz ?_;refine Zz.do (hd:=by exact D.st) (h:=fun _=>?_);refine Zz.off (fun w' h'=>h'.sel) ?_;exact R.z (V.less hV (fun w' h'=>h'.sel))
   ·refine V.pre (S':=Mem C' Wb ((enR Wo rb rest::[blk b3 [.pointer (F ⟨rb,0,O⟩)] 153,blk b5 [I J d] 3,Ut b6,blk b7 [.nilIface] 61,JB fun z=>star (dqZ b8 (pre++[(xp,r,.ok t rest)]) z)])++[T'])) ?_ (fun w' h'=>by
     have h1:=Ajc (b8:=b8) (x:=xp) (r:=r) (rest:=rest) (z:=(((F ⟨u.1.1,0,O⟩,u.1.2),(F ⟨u.2.1,0,O⟩,u.2.2)),z.2)) (Zz:=[E3 rb y.2,blk b3 [.pointer (F ⟨rb,0,O⟩)] 153,blk b5 [I J d] 3,Ut b6,blk b7 [.nilIface] 61,T']) h' hzl;exact(N9 (Mem.pk h1 (.tl .hd)) hy).sel)
    rw[<- Uy Wo rb pre xp r t rest];exact V.rn
 ·obtain⟨hc1,_⟩:=hfin.1.told hR hn;have hr:=hfin.told hR hn;refine V.ux (f:=fun z=>star (dqZ b8 xs z)) (fun z=>?_);refine V.us (B:=[pr (z.2.length=xs.length),star (CC (xs.map Jj) (z.2.map AM)),dqT b8 xs.length z.1,An 36 3 (Z z.1.1.1 xs.length z.1.1.2) xs.length (ZT xs),An 53 7 (Z z.1.2.1 xs.length z.1.2.2) xs.length (KM z.2)]) ?_;refine V.prop (p:=z.2.length=xs.length) (fun hzl=>?_);refine V.ux (f:=fun es2:List D8=>star [E3 rb es2,pr (es2.map (·.1)=Ey (Bv es) xs/\H2 Wo es2)]) (fun es2=>?_);refine V.us (B:=[E3 rb es2,pr (es2.map (·.1)=Ey (Bv es) xs/\H2 Wo es2)]) ?_;refine V.prop (p:=es2.map (·.1)=Ey (Bv es) xs/\H2 Wo es2) (fun he2=>?_) (hp:=.tail _ (.head _));rw[<- he2.1] at hc1 hr;have hc1:4*E4 (Bv es2)+1+xs.length<=n:=hc1;have hl2:=G6 (Bv es2);rw[List.length_map] at hl2;have hends:=fun(Zz:List Aw) w' (h':Mem Fz w Zz w') hm=>SU rb es2 col Fz w w' Zz h' hm (by omega);have hcase:(AL n col d (Bv es) [] []=.ok (BT (xs.map kyB) (xs.map Jj)) (Bv es2)/\RK col es2=.nilIface)\/∃ no e,AL n col d (Bv es) [] []=.bad no e/\RK col es2=Oq no e:=by
   rw[show AL n col d (Bv es) [] []=_ from hr];cases es2 with
   | nil=>exact .inl ⟨rfl,rfl⟩
   | cons x r=>
    show(Dz col _ x.1 (Bv r)=_/\_)\/∃ no e,Dz col _ x.1 (Bv r)=_/\_;unfold Dz RK;dsimp only
    by_cases h1:x.1.col<col
    ·rw[if_pos h1,if_pos h1];exact .inl ⟨rfl,rfl⟩
    ·rw[if_neg h1,if_neg h1];by_cases h2:col<x.1.col
     ·rw[if_pos h2,if_pos h2];exact .inr ⟨_,_,rfl,rfl⟩
     ·rw[if_neg h2,if_neg h2];exact .inr ⟨_,_,rfl,rfl⟩
  rcases hcase with ⟨h1,h2⟩ | ⟨no,e,h1,h2⟩;all_goals
   rw[h2] at hends;rw[h1];refine W ?_;refine Zz.on (Mem Fz w [dqT b8 xs.length z.1,blk b3 [.pointer (F ⟨rb,0,O⟩)] 153]) ?_;iterate 3 refine Wy ?_
   refine Zz.c (fun w' h'=>hends _ w' h' (by simp)) ?_;iterate 2 refine Wy ?_
   refine Zz.off (fun w' h'=>h'.sel) ?_;refine W ?_;refine V.eA (fun w' h'=>?_) (hr:=.one rfl (by(repeat (first | exact List.Mem.head _ | apply List.Mem.tail))) (by intro w;kernel_rfl) .nil)
  ·have h3:Mem Fz w (An 36 3 (Z z.1.1.1 xs.length z.1.1.2) (xs.map kyB).length ((xs.map kyB).flatMap Fl)::An 53 7 (Z z.1.2.1 xs.length z.1.2.2) (xs.map Jj).length (KM z.2)::star (CC (xs.map Jj) (z.2.map AM))::[E3 rb es2]) w':=by rw[List.length_map,List.length_map];exact h'.sel
   have h4:=Gq (k:=2) (nm:=⟨#[]⟩) (x:=AJ) (ks:=xs.map kyB) (by rw[List.length_map,List.length_map,hzl]) (⟨h3.1,h3.2.as fun Fz w h=>An.ks h⟩);exact⟨((2,⟨#[]⟩,AJ,(z.1.1.1,xs.length,z.1.1.2),(z.1.2.1,xs.length,z.1.2.2)),es2),rfl,PB h4.sel ⟨rfl,he2.2⟩⟩
  ·exact⟨((2,⟨#[]⟩,AJ,(z.1.1.1,xs.length,z.1.1.2),(z.1.2.1,xs.length,z.1.2.2)),es2),rfl,EP (Wo:=Wo) (no:=no) (e:=e) h'.sel (by omega)⟩
 ·refine V.ux (f:=fun u:(TY×List D8)×Int×Int=>star [pr (co=.ret/\AL n col d (Bv es) [] []=.bad u.2.1 u.2.2/\u.1.2.length<=1000000),blk b6 (AM u.1.1) 53,blk b7 [Oq u.2.1 u.2.2] 61,E3 rb u.1.2]) (fun u=>?_);refine V.us (B:=[pr (co=.ret/\AL n col d (Bv es) [] []=.bad u.2.1 u.2.2/\u.1.2.length<=1000000),blk b6 (AM u.1.1) 53,blk b7 [Oq u.2.1 u.2.2] 61,E3 rb u.1.2]) ?_;refine V.prop (p:=co=.ret/\AL n col d (Bv es) [] []=.bad u.2.1 u.2.2/\u.1.2.length<=1000000) (fun⟨hco,hbad,hl⟩=>?_);subst hco;rw[hbad];refine V.eA (fun w' h'=>?_) (hr:=.one rfl (by(repeat (first | exact List.Mem.head _ | apply List.Mem.tail))) (by intro w;kernel_rfl) .nil);exact⟨u.1,rfl,EP (Wo:=Wo) (no:=u.2.1) (e:=u.2.2) h'.sel hl⟩
end
end
section
set_option maxHeartbeats 32000000
set_option maxRecDepth 100000
section
variable {Wo:I7} {n:Nat}
theorem XF (hn1:n<=1000000) (hB0:∀ m,m<=n->Uo Wo m) (hN:∀ m,m<n->Yk Wo m):Yk Wo (n+1):=by
 intro m d es hes hne hd hn rb w hB Fz hX hF hQ;cases es with
 | nil=>exact absurd rfl hne
 | cons x r=>
  have hle:=G6 (x.1::Bv r);rw[List.length_cons,List.length_map] at hle;have hn:4*E4 (x.1::Bv r)+2<=n+1:=hn;have hlen:(x::r).length<=1000000:=by rw[List.length_cons];omega
  have hrl:r.length<=1000000:=by rw[List.length_cons] at hlen;omega
  have hx:=hes x (List.mem_cons_self ..);have hsq:=fun(h:¬24<d)=>Aa5 (Wo:=Wo) hn1 (fun m h=>hB0 m (by omega)) hN x.1.col d (x::r) hes (by omega) (by show 4*E4 (x.1::Bv r)+1<=n;omega) rb;have hdc:=fun(h:¬24<d)=>YW (Wo:=Wo) hn1 (fun m h=>hB0 m (by omega)) x.1.col d (x::r) hes (by omega) (by show 4*E4 (x.1::Bv r)+1<=n;omega) rb;obtain⟨⟨no,cl,l⟩,A,c⟩:=x;have hfu:4*E4 (Bv r)+3<=n:=by
   rw[AG] at hn;have:=List.length_pos_iff.2 hx.g.ne;dsimp only at hn this;omega
  have hbg:=fun w' (h:Ll Wo w')=>Ip (PcO Wo) no cl A c l w' (hx.tks.to fun b o v hb hv=>⟨h.cell hv hb.2,hb⟩);rw[show AF (n+1) m d (Bv ((⟨no,cl,l⟩,A,c)::r))=if 24<d then .bad no 73 else match Ck l with | .dash=>BK n cl d (Bv ((⟨no,cl,l⟩,A,c)::r)) [] | .key=>AL n cl d (Bv ((⟨no,cl,l⟩,A,c)::r)) [] [] | .name s=>G9 no s (belowB n no m d (Bv r)) | .plain=>C9 no l d (Bv r) by show AF (n+1) m d (⟨no,cl,l⟩::Bv r)=_;rw[AF];rfl];obtain⟨g,hg⟩:∃ g,Ck l=g:=⟨_,rfl⟩
  rw[hg] at hbg |-;refine V.enter _ Tryz.func111 (Mem.startX hX hF) ?_
  repeat (first | refine W ?_ | refine R.new fun _ _=>?_)
  refine R.c (fun w' h'=>EQ rb (⟨no,cl,l⟩,A,c) r Fz w w' _ h' (by simp) hlen) ?_
  repeat (first | refine W ?_ | refine R.new fun _ _=>?_)
  refine V.ifp (fun h=>?_) (fun h=>?_)
  ·rw[if_pos (show 24<d by omega)]
   repeat refine W ?_
   refine R.c (fun w' h'=>Cb no cl A l.length c 73 w') ?_
   repeat refine W ?_
   refine V.eA fun w' h'=>?_;exact⟨(GE AJ,(⟨no,cl,l⟩,A,c)::r),rfl,EP (Wo:=Wo) (no:=no) (e:=73) h'.sel hlen⟩
  ·have hd24:¬24<d:=by omega
   rw[if_neg hd24]
   repeat refine W ?_
   refine R.c (fun w' h'=>hbg w' (hB.ext hQ h'.1)) ?_;cases g with
   | dash=>
    repeat (first | refine W ?_ | refine R.new fun _ _=>?_)
    refine R.cq (fun w' h'=>hsq hd24 w' (hB.ext hQ h'.1)) (fun G hG=>hB.of hQ G hG) (fun y=>?_)
    repeat refine W ?_
    refine V.eA fun w' h'=>?_;exact⟨y,rfl,Mem.toW h'.sel⟩
   | key=>
    repeat (first | refine W ?_ | refine R.new fun _ _=>?_)
    refine R.cq (fun w' h'=>hdc hd24 w' (hB.ext hQ h'.1)) (fun G hG=>hB.of hQ G hG) (fun y=>?_)
    repeat refine W ?_
    refine V.eA fun w' h'=>?_;exact⟨y,rfl,Mem.toW h'.sel⟩
   | name s=>
    repeat (first | refine W ?_ | refine R.new fun _ _=>?_)
    refine R.cq (fun w' h'=>KC rb _ r w' hlen) (fun G hG=>trivial) (fun _=>?_)
    repeat refine W ?_
    refine R.cq (fun w' h'=>Oe hn1 (hB0 n (Nat.le_refl n)) no cl m A l.length c d s r hes.tl hd hfu rb w' (hB.ext hQ h'.1)) (fun G hG=>hB.of hQ G hG) (fun y=>?_)
    repeat refine W ?_
    refine V.eA fun w' h'=>?_;exact⟨y,rfl,Mem.toW h'.sel⟩
   | plain=>
    repeat (first | refine W ?_ | refine R.new fun _ _=>?_)
    refine R.cq (fun w' h'=>KC rb _ r w' hlen) (fun G hG=>trivial) (fun _=>?_)
    repeat refine W ?_
    refine R.cq (fun w' h'=>MI no cl A l.length c l A c d r hes.tl hx.tks hx.len hx.small hx.cap hd hrl rb w' (hB.ext hQ h'.1)) (fun G hG=>hB.of hQ G hG) (fun y=>?_)
    repeat refine W ?_
    refine V.eA fun w' h'=>?_;exact⟨y,rfl,Mem.toW h'.sel⟩
theorem Amg (Wo:I7):∀ n,n<=1000000->Yk Wo n/\Uo Wo n:=fun n=>by
 induction n using Nat.strongRecOn with
 | _ n ih=>
  intro hn;cases n with
  | zero=>exact⟨fun m d es hes hne hd h=>by omega,fun no col m A lf cf d es hes hd h=>by omega⟩
  | succ n=>
   exact⟨XF (by omega) (fun m hm=>(ih m (by omega) (by omega)).2) (fun m hm=>(ih m (by omega) (by omega)).1),Wx (by omega) (ih n (by omega) (by omega)).1⟩
end
end
section
structure IM where
 no:Int
 ind:Int
 s:List UInt8
def LX (t:Tk):C8:=⟨t.kind,t.str,t.at_⟩
def Kq (x:IM):Bool:=decide (0<=x.ind)&&decide (x.ind<=8000)
def Du (s:List UInt8):List C8×Int:=((BP s).1.map LX,if (BP s).2.2=0/\(BP s).1=[] then 93 else ((BP s).2.2:Int))
inductive Za where
 | ok (es:List En)
 | bad (no e:Int)
def Za.cons (x:En):Za->Za
 | .ok es=>.ok (x::es)
 | b=>b
def DW:List IM->Za
 | []=>.ok []
 | x::r=>if (Du x.s).2≠0 then .bad x.no (Du x.s).2 else (DW r).cons ⟨x.no,x.ind,(Du x.s).1⟩
def LF (l:List IM):Za:=if l.all Kq then DW l else .bad 0 2
def Hy:BR->Tr×Int×Int
 | .ok t []=>(t,0,0)
 | .ok _ (x::_)=>(Ei,x.no,92)
 | .bad no e=>(Ei,no,e)
 | .out=>(Ei,0,0)
def CK (Fz:Nat) (es:List En):Tr×Int×Int:=if es=[] then (Ei,0,0) else Hy (AF Fz (-1) 1 es)
def AZ (Fz:Nat) (l:List IM):Tr×Int×Int:=match LF l with
 | .ok es=>CK Fz es
 | .bad no e=>(Ei,no,e)
theorem NR:∀ {l:List IM} {es:List En},DW l=.ok es->es.length=l.length/\Full es/\∀ c:Int,(∀ x∈l,c<x.ind)->∀ y∈es,c<y.col
 | [],es,h=>by
  rw[DW] at h;injection h with h;subst h;exact⟨rfl,(fun x hx=>by cases hx),fun c _ y hy=>by cases hy⟩
 | x::r,es,h=>by
  rw[DW] at h;split at h
  ·cases h
  ·rename_i hne;cases hr:DW r with
   | bad no e=>rw[hr] at h;cases h
   | ok es'=>
    rw[hr] at h;injection h with h;subst h;obtain⟨h1,h2,h3⟩:=NR hr;refine⟨by simp[h1],fun y hy=>?_,fun c hc y hy=>?_⟩
    ·rcases List.mem_cons.1 hy with rfl | hy
     ·intro he;have hne:=Decidable.not_not.1 hne;have he:(BP x.s).1.map LX=[]:=he;rw[List.map_eq_nil_iff] at he;unfold Du at hne;simp only[he,and_true] at hne;split at hne
      ·omega
      ·rename_i h0;exact h0 (by omega)
     ·exact h2 y hy
    ·rcases List.mem_cons.1 hy with rfl | hy
     ·exact hc x List.mem_cons_self
     ·exact h3 c (fun z hz=>hc z (List.mem_cons_of_mem _ hz)) y hy
end
section
set_option maxHeartbeats 16000000
open Go Go.RowKit Go.Extern.Stop Go.Stop Go.Extern
set_option maxRecDepth 100000
namespace Ea
theorem asB:U9 214 224 2 where
 valueOfP _ _:=by kernel_rfl
 typeP _ _:=by kernel_rfl
 kindP _:=by kernel_rfl
 kindE _:=by kernel_rfl
 partsP _ _:=by kernel_rfl
 undP:=by kernel_rfl
 elemP _:=by kernel_rfl
 impE _:=by kernel_rfl
 typeOfE _ _:=by kernel_rfl
 assE _:=by kernel_rfl
 valueOfE vs w h:=by rcases vs with _ | ⟨a,_ | ⟨b,_ | ⟨c,r⟩⟩⟩<;>first | (simp at h;done) | kernel_rfl
 elemOfP _:=by kernel_rfl
 mkE _ _:=by kernel_rfl
 partsA _ _:=by kernel_rfl
 partsE _ _:=by kernel_rfl
 dirE _:=by kernel_rfl
 sizeE _:=by kernel_rfl
 aggE _:=by kernel_rfl
theorem b_told (no e:Int) (w:Y) (hg:ErrC w):Calls Tryz.prog 73 #[Oq no e] w fun ev w'=>ev=.returned (.tuple #[I J no,I J e])/\Below w.heap.size w w':=by
 refine V.enter _ Tryz.func73 (Mem.start (C:=A5) w) ?_
 repeat refine W ?_
 refine R.new fun tb htb=>?_
 repeat refine W ?_
 refine R.cw (X:=blk tb [I J 0,I J 0] 214) (v:=fun _:Unit=>.bool true) (X':=fun _=>blk tb [I J no,I J e] 214) (fun w' h'=>M5 asB (vs:=[I J no,I J e]) rfl rfl rfl w' (h'.1.cell hg fun e=>e) (fun e=>by have:=HO hg;omega)) (fun _=>?_)
 repeat refine W ?_
 refine V.end fun w' h'=>?_;exact⟨rfl,h'.1.below⟩
theorem b_told0 (w:Y):Calls Tryz.prog 73 #[.nilIface] w fun ev w'=>ev=.returned (.tuple #[I J 0,I J 0])/\Below w.heap.size w w':=by
 refine V.enter _ Tryz.func73 (Mem.start (C:=A5) w) ?_
 repeat refine W ?_
 refine R.new fun tb htb=>?_
 repeat refine W ?_
 refine R.c (fun w' h'=>UE _ w') ?_
 repeat refine W ?_
 refine V.end fun w' h'=>?_;exact⟨rfl,h'.1.below⟩
end Ea
def whR:BR->BR
 | .ok t []=>.ok t []
 | .ok _ (x::_)=>.bad x.no 92
 | b=>b
def whB (n:Nat) (es:List En):BR:=if es=[] then .ok Ei [] else whR (AF n (-1) 1 es)
def whA (r:BR) (y:TY):Aw:=match r with
 | .ok t _=>A9 (AM y) t
 | .bad _ _=>pr True
 | .out=>pr False
theorem Air {n:Nat} {es:List En} {t:Tr} {r:List En} (h:whB n es=.ok t r):r=[]:=by
 unfold whB at h;split at h
 ·injection h with _ h;exact h.symm
 ·cases hn:AF n (-1) 1 es with
  | ok t' r'=>
   rw[hn] at h;cases r' with
   | nil=>injection h with _ h;exact h.symm
   | cons x r'=>cases h
  | bad no e=>rw[hn] at h;cases h
  | out=>rw[hn] at h;cases h
theorem Abj (n:Nat) (es:List En):CK n es=Hy (whB n es):=by
 unfold CK whB;split
 ·rfl
 ·cases AF n (-1) 1 es with
  | ok t r=>cases r<;>rfl
  | bad no e=>rfl
  | out=>rfl
section
variable {Wo:I7} {n:Nat}
theorem Wi (hn1:n<=1000000) (es:List D8) (hes:H2 Wo es) (hn:4*E4 (Bv es)+2<=n) (rb:Nat) (w:Y) (hB:Ll Wo w):
  Dm Tryz.prog 72 #[.pointer (F ⟨rb,0,O⟩)] w (E3 rb es) (BnW Wo) (fun y:TY=>brV (whB n (Bv es)) y) (fun y=>whA (whB n (Bv es)) y):=by
 intro Fz hX hF hQ;have hle:=G6 (Bv es);rw[List.length_map] at hle;have hC:=fun(h:es≠[])=>(Amg Wo n hn1).1 (-1) 1 es hes h (by omega) hn rb;refine V.enter _ Tryz.func72 (Mem.startX hX hF) ?_
 repeat (first | refine W ?_ | refine R.new fun _ _=>?_)
 cases es with
 | nil=>
  refine R.c (fun w' h'=>FG rb Fz w w' _ h' (by simp)) ?_
  repeat (first | refine W ?_ | refine R.new fun _ _=>?_)
  refine V.eA fun w' h'=>?_;exact⟨GE AJ,rfl,Mem.toW (Mem.sel (Mem.tree0 (k:=0) (nm:=⟨#[]⟩) (x:=AJ) h'))⟩
 | cons x r=>
  have hC:=hC (by simp);rw[List.length_cons] at hle;have hlen:(x::r).length<=1000000:=by rw[List.length_cons];omega
  refine R.c (fun w' h'=>EQ rb x r Fz w w' _ h' (by simp) hlen) ?_;rw[show whB n (Bv (x::r))=whR (AF n (-1) 1 (Bv (x::r))) from if_neg (by simp)];have hl2:∀ t rest,AF n (-1) 1 (Bv (x::r))=.ok t rest->rest.length<=1000000:=fun t rest h=>by
   have h1:=((suffix n).1 _ _ _ _ _ _ h).length_le;rw[List.length_map] at h1;omega
  generalize AF n (-1) 1 (Bv (x::r))=res at hC hl2 |-
  repeat (first | refine W ?_ | refine R.new fun _ _=>?_)
  refine R.cq (fun w' h'=>hC w' (hB.ext hQ h'.1)) (fun G hG=>hB.of hQ G hG) (fun y=>?_);iterate 3 refine W ?_
  refine R.new fun b6 h6=>?_;iterate 3 refine W ?_
  cases res with
  | out=>exact V.know (p:=False) (fun w' h'=>let ⟨_,h1,_⟩:=h'.has (X:=pr False) (by simp[Uq]);h1) (fun h=>h.elim)
  | bad no e=>
   unfold Zr Oq Uq whR whA;refine V.us (B:=[E3 rb y.2,pr (y.2.length<=1000000)]) ?_;refine V.prop (p:=y.2.length<=1000000) (fun hl=>?_) (hp:=.tail _ (.head _))
   repeat refine W ?_
   obtain⟨y1,y2⟩:=y;cases y2 with
   | nil=>
    refine R.c (fun w' h'=>FG rb Fz w w' _ h' (by simp)) ?_
    repeat (first | refine W ?_ | refine R.new fun _ _=>?_)
    refine V.eA fun w' h'=>?_;exact⟨y1,rfl,Mem.toW (h'.pr (p:=True) trivial).sel⟩
   | cons x2 r2=>
    refine R.c (fun w' h'=>EQ rb x2 r2 Fz w w' _ h' (by simp) hl) ?_
    repeat (first | refine W ?_ | refine R.new fun _ _=>?_)
    refine V.eA fun w' h'=>?_;exact⟨y1,rfl,Mem.toW (h'.pr (p:=True) trivial).sel⟩
  | ok t rest=>
   unfold Zr Uq;refine V.us (B:=[E3 rb y.2,A9 (AM y.1) t,pr (Bv y.2=rest/\H2 Wo y.2)]) ?_;refine V.prop (p:=Bv y.2=rest/\H2 Wo y.2) (fun hp=>?_) (hp:=.tail _ (.tail _ (.head _)));have hl:=hl2 t rest rfl;obtain⟨y1,y2⟩:=y;obtain⟨hp1,hp2⟩:=hp
   repeat refine W ?_
   cases y2 with
   | nil=>
    obtain rfl:rest=[]:=hp1.symm;refine R.c (fun w' h'=>FG rb Fz w w' _ h' (by simp)) ?_
    repeat (first | refine W ?_ | refine R.new fun _ _=>?_)
    refine V.eA fun w' h'=>?_;exact⟨y1,rfl,Mem.toW h'.sel⟩
   | cons x2 r2=>
    obtain rfl:rest=x2.1::Bv r2:=hp1.symm;rw[List.length_cons,List.length_map] at hl;refine R.c (fun w' h'=>EQ rb x2 r2 Fz w w' _ h' (by simp) (by rw[List.length_cons];exact hl)) ?_
    repeat (first | refine W ?_ | refine R.new fun _ _=>?_)
    refine R.c (fun w' h'=>Cb x2.1.no x2.1.col x2.2.1 x2.1.l.length x2.2.2 92 w') ?_
    repeat refine W ?_
    refine V.eA fun w' h'=>?_;exact⟨y1,rfl,Mem.toW (h'.pr (p:=True) trivial).sel⟩
end
end
end Go.Proofs.YtdpppepmkeinaaaGreatDoor
