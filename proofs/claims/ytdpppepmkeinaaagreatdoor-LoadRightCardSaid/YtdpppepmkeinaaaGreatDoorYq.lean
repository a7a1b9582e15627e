/- What is proved: a part of the walk of the program and of its plain laws; no condition beside those that each theorem names. -/
import Derived.Test.YtdpppepmkeinaaaGreatDoorYp
import Derived.Test.YtdpppepmkeinaaaGreatDoorYn
import Derived.Test.YtdpppepmkeinaaaGreatDoorYm
import Derived.Test.YtdpppepmkeinaaaGreatDoorYa
namespace Go.Proofs.YtdpppepmkeinaaaGreatDoor
open Go Go.RowKit Go.Lib
open Go.Value renaming int->I,string->Q,slice->Z
open Go.IntKind renaming i64->J
open Option renaming none->O,some->F
open _root_.Go renaming World->Y
set_option linter.unusedSimpArgs false
set_option linter.unusedVariables false
set_option linter.unusedSectionVars false
section
set_option maxHeartbeats 32000000
set_option maxRecDepth 100000
theorem Xx:El Tryz.prog 37 36 3 32:=⟨by kernel_rfl,by kernel_rfl,by decide,by decide⟩
theorem VI (d:Nat):Aho 11 (fun m L=>E6 m (d+1) L) (fun m L xs=>CD m d L (xs.map (·.1)) (xs.map Hc)) (fun xs=>DG (xs.map (·.1)) (xs.map Hc)) where
 k0:=by decide
 e:=fun m L xs h=>by
  cases L with
  | nil=>cases h
  | cons t r=>rw[CD,if_pos h]
 b:=fun m L xs e h he=>by
  cases L with
  | nil=>unfold CD;unfold E6 at he;rw[if_neg h];exact he
  | cons t r=>
   rw[CD,if_neg h];unfold E6 at he;dsimp only at he |-;split at he<;>rename_i h1
   ·rw[if_pos h1];exact he
   ·rw[if_neg h1];split at he<;>rename_i h2
    ·rw[if_pos h2];exact he
    ·rw[if_neg h2];split at he<;>rename_i h3
     ·rw[if_pos h3];exact he
     ·rw[if_neg h3];split at he<;>rename_i h4
      ·cases he
      ·rw[not_or] at h4;rw[if_neg h4.1,if_neg h4.2];dsimp only at he;rw[he]
 o:=fun m L xs x v rest h hx ho=>by
  rw[List.map_append,List.map_append,List.map_singleton,List.map_singleton,show Hc x=v by unfold Hc;rw[ho]];rw[ho] at hx;cases L with
  | nil=>cases congrArg Prod.snd hx
  | cons t r=>
   rw[CD,if_neg h];unfold E6 at hx;dsimp only at hx |-;split at hx<;>rename_i h1
   ·cases congrArg Prod.snd hx
   ·rw[if_neg h1];split at hx<;>rename_i h2
    ·cases congrArg Prod.snd hx
    ·rw[if_neg h2];split at hx<;>rename_i h3
     ·cases congrArg Prod.snd hx
     ·rw[if_neg h3];have hx1:x.1=(Bd t).1:=by split at hx<;>exact congrArg Prod.fst hx
      split at hx<;>rename_i h4
      ·have h5:=congrArg Prod.snd hx;cases h5
       rw[hx1];rcases h4 with h4 | h4
       ·rw[if_pos h4,if_pos h4]
       ·rw[if_neg (by rw[h4];decide),if_pos h4,if_neg (by rw[h4];decide),if_pos h4]
      ·rw[not_or] at h4;rw[if_neg h4.1,if_neg h4.2,show Bl m (d+1) r.tail=.ok v rest from(congrArg Prod.snd hx).symm,hx1]
 len:=fun m L v rest h=>by
  cases L with
  | nil=>cases h
  | cons t r=>
   unfold E6 at h;dsimp only at h;have h5:r.tail.length<=(t::r).length:=by rw[List.length_tail,List.length_cons];omega
   split at h
   ·cases h
   split at h
   ·cases h
   split at h
   ·cases h
   split at h
   ·cases h;exact h5
   ·exact Nat.le_trans (Lq h) h5
section
variable {wB:Y} {A:Option Addr} {c:Nat} {l:List BX}
theorem flDict1_any (hP:M5 wB A l) (b2 b3 r m d q:Nat) (hd:d<=24) (hV:Xn wB A c l m (d+1)) (hn:2*(l.length - q)<=m+1) (hq:q<=l.length) (w:Y) (hB:Below wB.heap.size wB w):
  BT Tryz.prog 287 #[.pointer (F ⟨b2,0,O⟩),.pointer (F ⟨b3,0,O⟩)] w (star [Jc b2 b3 r d,Bv A c l r q]) (FG wB) (fun x:TY×Nat=>Z1 true (E6 m (d+1) (at_ l q)).1 (E6 m (d+1) (at_ l q)).2 x.1) (fun x=>star [Jc b2 b3 r d,Sf A c l r (E6 m (d+1) (at_ l q)).2 x]):=by
 intro Fz hX hF hQ;have hC:=fun w' (h:Below wB.heap.size wB w')=>TI hP q m (d+1) hV hn hq r w' h;generalize E6 m (d+1) (at_ l q)=res at hC |-;refine V.enter _ Tryz.func287 (Mem.startX hX hF) ?_;refine V.star ?_;unfold Jc;refine V.star ?_
 repeat refine W ?_
 refine R.cq (fun w' h'=>hC w' (AI.belowB hB hQ h'.1)) (fun G hG=>FG.of hB hQ G hG) (fun x=>?_)
 repeat refine W ?_
 refine V.end fun w' h'=>?_;exact⟨x,rfl,Mem.toW (Mem.toStar (B:=[star [_,_],Sf A c l r res.2 x]) (A:=[]) (Mem.toStar (B:=[_,_]) h'.sel))⟩
abbrev mpB (b:Nat) (kv v:Value):Aj:=blk b [I J 2,Q ⟨#[]⟩,I J 0,I J 0,Q ⟨#[]⟩,kv,v] 53
abbrev nlB (b:Nat):Aj:=blk b [.nilIface] 400
abbrev ZzP:=(Option Addr×Nat)×(Option Addr×Nat)
abbrev YO (b5 n:Nat) (kl:List Value) (tl:List Value) (z:ZzP):List Aj:=[mpB b5 (Z z.1.1 n z.1.2) (Z z.2.1 n z.2.2),Af 36 3 (Z z.1.1 n z.1.2) n kl,Af 53 7 (Z z.2.1 n z.2.2) n tl]
def SX (xs:List G3):List Value:=(xs.map (·.1)).flatMap DO
def dcB (b4 b5:Nat) (xs:List G3):List Aj:=[nlB b4,Hf fun z:ZzP=>star (YO b5 xs.length (SX xs) (Dj xs).flatten z),star (BE (xs.map Hc) (Dj xs)),pr (Dn xs)]
theorem Acm {C:Nat->Prop} {w0 w:Y} {T:Aj} {b4 b5:Nat} {pre:List G3} {sx:Sc} {t:Tr} {rest:List Pc} {y:TY} {m:Nat} {z:ZzP} (h:Mem C w0 ([Aq (As y) t,nlB b4]++YO b5 (pre.length+1) (SX pre++DO sx) ((Dj pre).flatten++As y) z++[star (BE (pre.map Hc) (Dj pre)),T]) w) (hok:Dn pre):
  Mem C w0 (dcB b4 b5 (pre++[(sx,.ok t rest,y,m)])++[T]) w:=by
 have e2:Dj (pre++[(sx,FR.ok t rest,y,m)])=Dj pre++[As y]:=by unfold Dj;rw[List.map_append];rfl
 have e3:(pre++[(sx,FR.ok t rest,y,m)]).map Hc=pre.map Hc++[t]:=by rw[List.map_append];rfl
 have e4:SX (pre++[(sx,FR.ok t rest,y,m)])=SX pre++DO sx:=by unfold SX;rw[List.map_append,List.flatMap_append];simp
 unfold dcB;rw[List.length_append,e2,e3,e4,List.flatten_append,FT _ _ _ _ (by unfold Dj;rw[List.length_map,List.length_map])];have h1:Mem C w0 (star (BE (pre.map Hc) (Dj pre)++[Aq (As y) t])::([nlB b4]++YO b5 (pre.length+1) (SX pre++DO sx) ((Dj pre).flatten++As y) z++[T])) w:=E0 (B:=[Aq (As y) t]) h.sel;have h2:=h1.pr (p:=Dn (pre++[(sx,FR.ok t rest,y,m)])) (JD hok ⟨t,rest,rfl⟩);have h3:Mem C w0 (YO b5 (pre.length+1) (SX pre++DO sx) ((Dj pre).flatten++As y) z++([nlB b4,star (BE (pre.map Hc) (Dj pre)++[Aq (As y) t]),pr (Dn (pre++[(sx,FR.ok t rest,y,m)]))]++[T])) w:=h2.sel;have h4:=Mem.toEx (f:=fun z:ZzP=>star (YO b5 (pre.length+1) (SX pre++DO sx) ((Dj pre).flatten++As y) z)) z (Mem.toStar h3);rw[show[As y].flatten=As y by simp];exact h4.sel
theorem Uz (hP:M5 wB A l) (p d n:Nat) (t:BX) (ht:l[p]? =F t) (hd:¬24<d) (hn:2*(l.length - p)<=n) (hV:∀ m,m<n->Xn wB A c l m (d+1)):XW wB A c l 277 p d (CD n d (at_ l (p+1)) [] []):=by
 intro r w hB Fz hX hF hQ;have hlt:=(List.getElem?_eq_some_iff.1 ht).1;have hlen:=hP.len;refine V.enter _ Tryz.func277 (Mem.startX hX hF) ?_;refine W ?_;refine R.new fun b2 h2=>?_;refine R.new fun b3 h3=>?_;refine R.new fun b4 h4=>?_;unfold Bv
 repeat refine W ?_
 refine R.new fun b5 h5=>?_
 repeat refine W ?_
 refine R.cf (fun w' h'=>Kq r 11 287 #[.pointer (F ⟨b2,0,O⟩),.pointer (F ⟨b3,0,O⟩)] w') (fun q=>?_);refine R.z ?_;have hI:ItP wB A c l r 287 [.pointer (F ⟨b2,0,O⟩),.pointer (F ⟨b3,0,O⟩)] (Jc b2 b3 r d) true 11 (p+1) n (YL l (fun m L=>E6 m (d+1) L) n):={
  rd:=hP
  hf:=by intro args w;simp
  hp0:=hlt
  hn0:=by omega
  len:=fun i q t rest h=>by have:=(VI d).len _ _ _ _ h;rw[JG] at this;exact this
  one:=fun i q w hB hq hn=>flDict1_any hP b2 b3 r (n - i - 1) d q (by omega) (hV (n - i - 1) (by omega)) (by omega) hq w hB}
 refine V.range (ZF hI q.1 q.2.1 q.2.2) (dcB b4 b5) (fun co xs=>[Hf fun e=>star [pr (co=.ret/\CD n d (at_ l (p+1)) [] []=.bad e),blk b4 [Sn e] 400]])
  (fun w' h=>?_) (fun w1 w2 G h hb hG=>⟨AI.belowB hB hQ (h.1.trans (AI.of_below (C:=Fz) hb) (fun _ _ e=>e)),FG.of hB hQ G hG⟩) (fun r' pre x Wb C' T T' Rl hadm hx hC hmid=>?_) (fun D xs hfin=>?_) (fun D co xs=>?_)
 ·have h0:Mem Fz w ([blk b2 [.pointer (F ⟨r,0,O⟩)] 394,blk b3 [I J d] 3]++[mpB b5 (Z O 0 0) (Z O 0 0),nlB b4,Bv A c l r (p+1),blk q.1 [.pointer (F ⟨r,0,O⟩)] 394,blk q.2.1 [I J 11] 3,blk q.2.2 [.func (.func 287) #[] #[.pointer (F ⟨b2,0,O⟩),.pointer (F ⟨b3,0,O⟩)]] 442]) w':=h.sel;have h1:Mem Fz w (YO b5 0 [] [] ((O,0),(O,0))++[Jc b2 b3 r d,nlB b4,Bv A c l r (p+1),blk q.1 [.pointer (F ⟨r,0,O⟩)] 394,blk q.2.1 [I J 11] 3,blk q.2.2 [.func (.func 287) #[] #[.pointer (F ⟨b2,0,O⟩),.pointer (F ⟨b3,0,O⟩)]] 442]) w':=(((Mem.toStar h0).ownNil 53 7).ownNil 36 3).sel;have h3:=Mem.toEx (f:=fun z:ZzP=>star (YO b5 0 [] [] z)) ((O,0),(O,0)) (Mem.toStar h1);have h4:=(Mem.toStar (B:=[]) h3).pr (p:=Dn []) (fun x hx=>by cases hx);exact h4.sel
 ·obtain⟨sx,sr,y,m⟩:=x;cases sr with
  | bad e=>
   have hbad:=Rp (VI d) (by omega) hlt hadm rfl
   repeat refine W ?_
   refine V.mid hmid ?_;dsimp only[Z1,Sn]
   repeat (first | refine W ?_ | refine R.new fun _ _=>?_)
   refine V.pre (S':=Mem C' Wb [Hf fun e=>star [pr (Code.ret=.ret/\CD n d (at_ l (p+1)) [] []=.bad e),blk b4 [Sn e] 400],T']) ?_ (by intro w' h';exact Mem.toEx e (Mem.toStar (B:=[_,_]) (Mem.sel (h'.pr (p:=Code.ret=.ret/\CD n d (at_ l (p+1)) [] []=.bad e) ⟨rfl,hbad⟩))));exact V.rr
  | ok t rest=>
   repeat refine W ?_
   refine V.mid hmid ?_;dsimp only[Z1]
   rw[if_pos rfl];have hpl:pre.length+1<=1000000:=by obtain⟨q,hq,_⟩:=hadm;have:=(hq.list (VI d) (by omega) hlt).1;omega
   iterate 14 (first | refine W ?_ | refine R.new fun _ _=>?_)
   refine V.prop (p:=Dn pre) (fun hok=>?_) (hp:=by simp[dcB]);iterate 3 refine W ?_
   refine R.new fun b10 h10=>?_;iterate 2 refine W ?_
   refine V.pre (S':=Mem C' Wb [Hf fun z:ZzP=>star (YO b5 pre.length (SX pre) (Dj pre).flatten z),blk b10 (DO sx++As y) 448,Aq (As y) t,nlB b4,star (BE (pre.map Hc) (Dj pre)),T']) ?_ (by intro w' h';exact h'.sel);refine V.ex (fun z=>?_);refine V.star ?_;refine V.regT [4,5,11,12,13,14,15,16] [0,1,2,3,6,7,8,9,10] (Mem C' Wb [mpB b5 (Z z.1.1 pre.length z.1.2) (Z z.2.1 pre.length z.2.2),blk b10 (DO sx++As y) 448]) ?_;iterate 9 refine Wz ?_
   refine Zz.last (ι:=(Nat×Nat)×(Nat×Nat)) (Si:=fun u=>Mem C' Wb ([Aq (As y) t,nlB b4]++YO b5 (pre.length+1) (SX pre++DO sx) ((Dj pre).flatten++As y) ((F ⟨u.1.1,0,O⟩,u.1.2),(F ⟨u.2.1,0,O⟩,u.2.2))++[star (BE (pre.map Hc) (Dj pre)),T'])) (li:=fun _=>[]) (fun hV=>?_) (fun u=>?_)
   ·refine Zz.fk 4 11 (T1:=[]) (R1:=[5,11,12,13,14,15,16]) (T2:=[4,5,13,12,14,15,16]) (R2:=[]) (d1:=by exact D.bs (m:=1)) (d2:=by exact D.bs (m:=1)) (h1:=fun bk=>?_) (h2:=fun bt=>?_);refine Zz.fk 5 11 (T1:=[13,11,12,14,15,16]) (R1:=[]) (T2:=[5,13,12,14,15,16]) (R2:=[]) (d1:=by exact D.app Xx (k:=pre.length) (m:=1) (xs:=SX pre) (news:=DO sx) (fun w' h'=>(Cs.of_blk (h'.blk (by repeat (first | exact List.Mem.head _ | apply List.Mem.tail)))).add) (by omega)) (d2:=by exact D.bs (m:=1)) (h1:=fun u1=>?_) (h2:=fun bt=>?_);refine Wz ?_;refine Zz.do (hd:=by exact D.bs (m:=1)) (h:=fun bt=>?_);refine Zz.do (hd:=by exact D.app elT (k:=pre.length) (m:=1) (xs:=(Dj pre).flatten) (news:=As y) (fun w' h'=>(Cs.of_blk (h'.blk (by repeat (first | exact List.Mem.head _ | apply List.Mem.tail)))).add) (by omega)) (h:=fun u2=>?_);replace hV:=hV (u1,u2)
    rotate_left
    refine Zz.do (hd:=by exact D.app Xx (k:=pre.length) (m:=1) (xs:=SX pre) (news:=DO sx) (fun w' h'=>(Cs.of_blk (h'.blk (by repeat (first | exact List.Mem.head _ | apply List.Mem.tail)))).add) (by omega)) (h:=fun u1=>?_);refine Wz ?_;refine Zz.do (hd:=by exact D.app elT (k:=pre.length) (m:=1) (xs:=(Dj pre).flatten) (news:=As y) (fun w' h'=>(Cs.of_blk (h'.blk (by repeat (first | exact List.Mem.head _ | apply List.Mem.tail)))).add) (by omega)) (h:=fun u2=>?_);replace hV:=hV (u1,u2)
    rotate_left
    refine Zz.do (hd:=by exact D.bs (m:=1)) (h:=fun bk=>?_);refine Zz.do (hd:=by exact D.app Xx (k:=pre.length) (m:=1) (xs:=SX pre) (news:=DO sx) (fun w' h'=>(Cs.of_blk (h'.blk (by repeat (first | exact List.Mem.head _ | apply List.Mem.tail)))).add) (by omega)) (h:=fun u1=>?_);refine Wz ?_;refine Zz.do (hd:=by exact D.app elT (k:=pre.length) (m:=1) (xs:=(Dj pre).flatten) (news:=As y) (fun w' h'=>(Cs.of_blk (h'.blk (by repeat (first | exact List.Mem.head _ | apply List.Mem.tail)))).add) (by omega)) (h:=fun u2=>?_);replace hV:=hV (u1,u2);all_goals
     refine Zz.clr (Mem C' Wb []) (hd:=by exact D.st) (h:=fun _=>?_);refine Wz ?_;refine Zz.do (hd:=by exact D.st) (h:=fun _=>?_);refine Zz.off (fun w' h'=>h'.sel) ?_;exact R.z (V.less hV (fun w' h'=>h'.sel))
   ·refine V.pre (S':=Mem C' Wb (dcB b4 b5 (pre++[(sx,.ok t rest,y,m)])++[T'])) ?_ (fun w' h'=>Acm (z:=((F ⟨u.1.1,0,O⟩,u.1.2),(F ⟨u.2.1,0,O⟩,u.2.2))) h' hok);exact V.rn
 ·refine V.prop (p:=Dn xs) (fun hok=>?_) (hp:=by simp[dcB]);obtain⟨m,hm,hrd,hres⟩:=PY (VI d) (by omega) hlt (A:=A) (c:=c) (r:=r) hfin hok;rw[show CD n d (at_ l (p+1)) [] []=_ from hres];refine V.pre (S':=Mem Fz w [Hf fun z:ZzP=>star (YO b5 xs.length (SX xs) (Dj xs).flatten z),Jc b2 b3 r d,Bv A c l r m,Ob D (.deferred (F [])),nlB b4,star (BE (xs.map Hc) (Dj xs))]) ?_ (by intro w' h';rw[hrd] at h';exact h'.sel);refine V.ex (fun z=>?_);refine V.star ?_;refine V.pre (S':=Mem Fz w ([Jc b2 b3 r d,Bv A c l r m,Ob D (.deferred (F [])),nlB b4,star (BE (xs.map Hc) (Dj xs))]++YO b5 xs.length (SX xs) (Dj xs).flatten z)) ?_ (by intro w' h';exact h'.sel);refine V.star ?_
  repeat refine W ?_
  refine R.cq (fun w' h'=>JV (c:=c) hP r m 11 (2,⟨#[]⟩,A4,(z.1.1,xs.length,z.1.2),(z.2.1,xs.length,z.2.2)) w' (AI.belowB hB hQ h'.1) hm) (fun G hG=>FG.of hB hQ G hG) (fun _=>?_);cases h9:CQ l m [11] with
  | true=>
   repeat refine W ?_
   refine V.end fun w' h'=>?_;have h1:Mem Fz w (Af 36 3 (Z z.1.1 xs.length z.1.2) (xs.map (·.1)).length ((xs.map (·.1)).flatMap DO)::Af 53 7 (Z z.2.1 xs.length z.2.2) (xs.map Hc).length (Dj xs).flatten::star (BE (xs.map Hc) (Dj xs))::[Bv A c l r (m+1)]) w':=by rw[List.length_map,List.length_map];exact h'.sel
   have h2:=EF (k:=2) (nm:=⟨#[]⟩) (x:=A4) (ks:=xs.map (·.1)) (by unfold Dj;rw[List.length_map,List.length_map]) (⟨h1.1,h1.2.as fun Fz w h=>Af.ks h⟩);exact⟨((2,⟨#[]⟩,A4,(z.1.1,xs.length,z.1.2),(z.2.1,xs.length,z.2.2)),m+1),rfl,NV h2.sel (J6 h9) rfl⟩
  | false=>
   repeat refine W ?_
   refine V.end fun w' h'=>?_;exact⟨(EO A4,0),rfl,Mem.toW (h'.pr (p:=True) trivial).sel⟩
 ·refine V.pre (S':=Mem Fz w [Hf fun e=>star [pr (co=.ret/\CD n d (at_ l (p+1)) [] []=.bad e),blk b4 [Sn e] 400],Ob D (.deferred (F []))]) ?_ (by intro w' h';exact h'.sel);refine V.ex (fun e=>?_);refine V.star ?_;refine V.prop (p:=co=.ret/\CD n d (at_ l (p+1)) [] []=.bad e) (fun⟨hco,hbad⟩=>?_);subst hco;rw[hbad];refine V.end fun w' h'=>?_;exact⟨(EO A4,0),rfl,Mem.toW (h'.pr (p:=True) trivial).sel⟩
end
end
section
set_option maxHeartbeats 32000000
set_option maxRecDepth 100000
section
variable {wB:Y} {A:Option Addr} {c:Nat} {l:List BX}
theorem UO {f:FuncId} {p d:Nat} {r1 r2:FR} (h:XW wB A c l f p d r1) (e:r1=r2):XW wB A c l f p d r2:=by rw[<- e];exact h
theorem OY (hP:M5 wB A l) (n d q:Nat) (hq:q<=l.length) (hn:2*(l.length - q)<=n) (hV:∀ m,m<=n->∀ d,Xn wB A c l m d):XW wB A c l 257 q d (Bl (n+1) d (at_ l q)):=by
 have hlen:=hP.len;by_cases hd:24<d
 ·rw[show Bl (n+1) d (at_ l q)=.bad 73 by unfold Bl;rw[if_pos hd]];intro r w hB Fz hX hF hQ;refine V.enter _ Tryz.func257 (Mem.startX hX hF) ?_
  repeat (first | refine W ?_ | refine R.new fun _ _=>?_)
  refine V.ifp (fun _=>?_) (fun h=>absurd (show(24:Int)<(d:Int) by omega) h)
  repeat refine W ?_
  refine R.c (fun w' h'=>BS 73 w') ?_
  repeat refine W ?_
  refine V.end fun w' h'=>?_;exact⟨(EO A4,0),rfl,Mem.toW (h'.pr (p:=True) trivial).sel⟩
 ·cases ht:l[q]? with
  | none=>
   have hge:=List.getElem?_eq_none_iff.1 ht;have:at_ l q=[]:=by unfold at_;rw[List.drop_eq_nil_iff.2 hge];rfl
   rw[this,show Bl (n+1) d []=.bad 91 by unfold Bl;rw[if_neg hd]];intro r w hB Fz hX hF hQ;refine V.enter _ Tryz.func257 (Mem.startX hX hF) ?_;unfold Bv
   repeat (first | refine W ?_ | refine R.new fun _ _=>?_)
   refine V.ifp (fun h=>absurd (show(24:Int)<(d:Int) from h) (by omega)) (fun h=>?_)
   repeat refine W ?_
   refine V.ifp (fun h=>?_) (fun h=>absurd hge h)
   repeat refine W ?_
   refine R.c (fun w' h'=>BS 91 w') ?_
   repeat refine W ?_
   refine V.end fun w' h'=>?_;exact⟨(EO A4,0),rfl,Mem.toW (h'.pr (p:=True) trivial).sel⟩
  | some t=>
   have hlt:=(List.getElem?_eq_some_iff.1 ht).1;have hat:at_ l q=DP t::at_ l (q+1):=KC ht;obtain⟨b,o,rfl,hb,hc0⟩:=hP.tks q t ht;obtain⟨kd,ts,ta⟩:=t;have hlast:kd=3\/kd=4\/kd=8\/kd=10\/kd=1\/kd=2\/kd=0\/kd=5\/kd=6\/kd=7\/kd=9\/(kd<0\/11<=kd):=by omega
   have hres:kd≠1->kd≠2->kd≠3->kd≠4->kd≠8->kd≠10->Bl (n+1) d (at_ l q)=.bad 91:=fun h1 h2 h3 h4 h8 h10=>by
    rw[hat,Bl,if_neg hd,if_neg (show ¬(DP ⟨kd,ts,ta⟩).kind=3 from h3),if_neg (show ¬(DP ⟨kd,ts,ta⟩).kind=4 from h4),if_neg (show ¬(DP ⟨kd,ts,ta⟩).kind=8 from h8),if_neg (show ¬(DP ⟨kd,ts,ta⟩).kind=10 from h10)];unfold Bd;rw[if_neg (show ¬(DP ⟨kd,ts,ta⟩).kind=1 from h1),if_neg (show ¬(DP ⟨kd,ts,ta⟩).kind=2 from h2)];rfl
   have hgo:∀ f,(kd=1\/kd=2)/\f=273\/kd=3/\f=274\/kd=4/\f=275\/kd=8/\f=276\/kd=10/\f=277->XW wB (F ⟨b,o,O⟩) c l f q d (Bl (n+1) d (at_ l q)):=by
    rintro f (⟨h,rfl⟩ | ⟨rfl,rfl⟩ | ⟨rfl,rfl⟩ | ⟨rfl,rfl⟩ | ⟨rfl,rfl⟩)
    ·refine UO (Om hP q d _ ht) ?_;rw[hat,Bl,if_neg hd];rcases h with rfl | rfl<;>rfl
    ·exact Qx hP q d n _ ht hd rfl (hV n (Nat.le_refl n) d (q+1) hlt (by omega))
    ·refine UO (Wk hP q d _ ht) ?_;rw[hat,Bl,if_neg hd];rfl
    ·refine UO (To hP q d n _ ht hd rfl hn (fun m hm=>hV m (by omega) (d+1))) ?_;rw[hat,Bl,if_neg hd];rfl
    ·refine UO (Uz hP q d n _ ht hd hn (fun m hm=>hV m (by omega) (d+1))) ?_;rw[hat,Bl,if_neg hd];rfl
   clear hat;intro r w hB Fz hX hF hQ;have hc:Cs w b (o+q*3) (CY ⟨kd,ts,ta⟩):=fun j u hj=>cell_below (hc0 j u hj) hB;have hnF:¬Fz b:=fun e=>by have:=hQ b e;omega
   generalize Bl (n+1) d (at_ l q)=res at hgo hres |-;refine V.enter _ Tryz.func257 (Mem.startX hX hF) ?_
   repeat (first | refine W ?_ | refine R.new fun _ _=>?_)
   refine V.ifp (fun h=>absurd (show(24:Int)<(d:Int) from h) (by omega)) (fun h=>?_);unfold Bv
   repeat refine W ?_
   refine V.ifp (fun h=>absurd (show l.length<=q by omega) (by omega)) (fun h=>?_)
   repeat refine W ?_
   refine R.ix hlt ?_
   repeat refine W ?_
   refine R.lo 0 hc ?_ hnF;iterate 2 refine W ?_
   rcases hlast with rfl | rfl | rfl | rfl | rfl | rfl | rfl | rfl | rfl | rfl | rfl | hlast;iterate 6
    ·repeat refine W ?_
     refine R.cq (fun w' h'=>hgo _ (by first | exact .inl ⟨.inl rfl,rfl⟩ | exact .inl ⟨.inr rfl,rfl⟩ | exact .inr (.inl ⟨rfl,rfl⟩) | exact .inr (.inr (.inl ⟨rfl,rfl⟩)) | exact .inr (.inr (.inr (.inl ⟨rfl,rfl⟩))) | exact .inr (.inr (.inr (.inr ⟨rfl,rfl⟩)))) r w' (AI.belowB hB hQ h'.1)) (fun G hG=>FG.of hB hQ G hG) (fun x=>?_)
     repeat refine W ?_
     refine V.end fun w' h'=>?_;exact⟨x,rfl,Mem.toW h'.sel⟩
   iterate 5
    ·rw[hres (by decide) (by decide) (by decide) (by decide) (by decide) (by decide)]
     repeat refine W ?_
     refine R.c (fun w' h'=>BS 91 w') ?_
     repeat refine W ?_
     refine V.end fun w' h'=>?_;exact⟨(EO A4,0),rfl,Mem.toW (h'.pr (p:=True) trivial).sel⟩
   rw[hres (by omega) (by omega) (by omega) (by omega) (by omega) (by omega)];rcases hlast with hlast | hlast
   ·iterate 3 refine W ?_
    refine R.yes (p:=kd<0) 58 hlast ?_
    repeat refine W ?_
    refine R.c (fun w' h'=>BS 91 w') ?_
    repeat refine W ?_
    refine V.end fun w' h'=>?_;exact⟨(EO A4,0),rfl,Mem.toW (h'.pr (p:=True) trivial).sel⟩
   ·iterate 3 refine W ?_
    refine R.no (p:=kd<0) 58 (by omega) ?_;iterate 3 refine W ?_
    refine R.yes (p:=11<=kd) 61 hlast ?_
    repeat refine W ?_
    refine R.c (fun w' h'=>BS 91 w') ?_
    repeat refine W ?_
    refine V.end fun w' h'=>?_;exact⟨(EO A4,0),rfl,Mem.toW (h'.pr (p:=True) trivial).sel⟩
theorem Ahu (hP:M5 wB A l):∀ n d,Xn wB A c l n d:=fun n=>by
 induction n using Nat.strongRecOn with
 | _ n ih=>
  intro d q hq hn;cases n with
  | zero=>omega
  | succ n=>exact OY hP n d q hq (by omega) (fun m hm=>ih m (by omega))
end
end
section
set_option maxHeartbeats 8000000
open Go Go.RowKit Go.Extern.Stop Go.Stop Go.Extern
set_option maxRecDepth 100000
namespace Ea
theorem asF:T4 418 419 1 where
 valueOfP _ _:=by kernel_rfl
 typeP _ _:=by kernel_rfl
 kindP _:=by kernel_rfl
 kindE _:=by kernel_rfl
 partsP _ _:=by kernel_rfl
 undP:=by kernel_rfl
 elemP _:=by kernel_rfl
 impE _:=by kernel_rfl
 typeOfE _ _:=by kernel_rfl
 assE _:=by kernel_rfl
 valueOfE vs w h:=by rcases vs with _ | ⟨a,_ | ⟨b,r⟩⟩<;>first | (simp at h;done) | kernel_rfl
 elemOfP _:=by kernel_rfl
 mkE _ _:=by kernel_rfl
 partsA _ _:=by kernel_rfl
 partsE _ _:=by kernel_rfl
 dirE _:=by kernel_rfl
 sizeE _:=by kernel_rfl
 aggE _:=by kernel_rfl
theorem f_told (e:Int) (w:Y) (hg:ErrC w):Calls Tryz.prog 258 #[fwV e] w fun ev w'=>ev=.returned (I J e)/\Below w.heap.size w w':=by
 refine V.enter _ Tryz.func258 (Mem.start (C:=Ao) w) ?_
 repeat refine W ?_
 refine R.new fun tb htb=>?_
 repeat refine W ?_
 refine R.cw (X:=blk tb [I J 0] 418) (v:=fun _:Unit=>.bool true) (X':=fun _=>blk tb [I J e] 418) (fun w' h'=>LS asF (vs:=[I J e]) rfl rfl rfl w' (h'.1.cell hg fun e=>e) (fun e=>by have:=FV hg;omega)) (fun _=>?_)
 repeat refine W ?_
 refine V.end fun w' h'=>?_;exact⟨rfl,h'.1.below⟩
end Ea
def frV (r:FR) (x:TY×Nat):Value:=match r with
 | .ok _ _=>.tuple #[.agg (As x.1).toArray,I J x.2,I J 0]
 | .bad e=>.tuple #[.agg (As (EO A4)).toArray,I J 0,I J e]
def frM (l:List BX) (r:FR) (x:TY×Nat):List Aj:=match r with
 | .ok t rest=>[Aq (As x.1) t,pr (x.2<=l.length/\rest=at_ l x.2)]
 | .bad _=>[]
theorem PB (A:Option Addr) (c:Nat) (l:List BX) (p n:Nat) (w:Y) (hP:M5 w A l) (hg:Ea.ErrC w) (hp:p<=l.length) (hn:2*(l.length - p)+1<=n):
  Calls Tryz.prog 228 #[Z A l.length c,I J p] w fun e w'=>∃ x:TY×Nat,e=.returned (frV (Bl n 1 (at_ l p)) x)/\Fr w w' (frM l (Bl n 1 (at_ l p)) x):=by
 have hV:=fun r w' (h:Below w.heap.size w w')=>Ahu (c:=c) hP n 1 p hp hn r w' h;generalize Bl n 1 (at_ l p)=res at hV |-;refine V.enter _ Tryz.func228 (Mem.start (C:=Ao) w) ?_;refine W ?_;refine R.new fun b4 h4=>?_
 repeat refine W ?_
 refine R.new fun r hr=>?_
 repeat refine W ?_
 refine R.cq (X:=Bv A c l r p) (fun w' h'=>hV r w' h'.1.below) (fun G hG b hb=>(hG b hb).elim id (fun e=>e.elim)) (fun x=>?_);iterate 2 refine W ?_
 cases res with
 | bad e=>
  dsimp only[Sf,Lf,Sn]
  repeat (first | refine W ?_ | refine R.new fun _ _=>?_)
  refine R.c (fun w' h'=>Ea.f_told e w' (h'.1.cell hg fun e=>e)) ?_
  repeat refine W ?_
  refine V.end (fun w' h'=>?_) (hv:=.agg rfl (by(repeat (first | exact List.Mem.head _ | apply List.Mem.tail))) (by intro w;kernel_rfl) (by intro w;simp;try rfl) (.tmp rfl (.tmp rfl .nil)));exact⟨x,rfl,(h'.sel:Mem Ao w [] w').to_fr⟩
 | ok t rest=>
  dsimp only[Sf,Lf]
  refine V.star ?_;iterate 15 (first | refine W ?_ | refine R.new fun _ _=>?_)
  refine Zz.on (Mem Ao w [Bv A c l r x.2]) ?_;unfold Bv;iterate 6 refine Wz ?_
  refine Zz.do (hd:=by exact D.ci (fun w' h'=>NS x.1 w') (Af9 _) (Agb _)) (h:=fun _=>?_);iterate 3 refine Wy ?_
  refine Zz.off (fun w' h'=>h'.sel) ?_;refine R.z ?_;refine V.end (fun w' h'=>?_) (hv:=.agg rfl (by(repeat (first | exact List.Mem.head _ | apply List.Mem.tail))) (by intro w;kernel_rfl) (by intro w;simp;try rfl) (.tmp rfl (.tmp rfl .nil)));exact⟨x,rfl,(h'.sel:Mem Ao w [Aq (As x.1) t,pr (x.2<=l.length/\rest=at_ l x.2)] w').to_fr⟩
end
section
set_option maxHeartbeats 8000000
set_option maxRecDepth 100000
theorem M5.to {w w':Y} {A:Option Addr} {l:List BX} (h:M5 w A l) (hb:Below w.heap.size w w'):M5 w' A l:=⟨h.tks.to fun b o v hl hv=>⟨cell_below hv hb,Nat.lt_of_lt_of_le hl hb.size⟩,h.len,h.small,h.tabs.below hb⟩
theorem Xv (A:Option Addr) (n c:Nat) (w:Y):Calls Tryz.prog 259 #[Z A n c,Z O 0 0] w fun e w'=>e=.returned (.bool (decide (n=0)))/\Below w.heap.size w w':=by
 refine V.enter _ Tryz.func259 (Mem.start (C:=Ao) w) ?_
 repeat refine W ?_
 by_cases h:n=0
 ·subst h
  repeat refine W ?_
  refine V.loop (ι:=Unit) (fun _=>True) (fun _=>Mem Ao w []) (fun _=>[(13,I J 0),(12,I J 0)]) (fun _=>0) () trivial (fun w h=>h) ⟨rfl,rfl,trivial⟩ ?_;intro _ _
  repeat refine W ?_
  refine V.end fun w' h'=>?_;exact⟨rfl,h'.1.below⟩
 ·refine V.re 10 (v:=.bool ((n:Int) !=0)) (v':=.bool true) (by simp[h]) ?_
  repeat refine W ?_
  refine V.end fun w' h'=>?_;exact⟨by rw[decide_eq_false h];rfl,h'.1.below⟩
theorem PC (A:Option Addr) (n c:Nat) (w:Y):Calls Tryz.prog 229 #[Z A n c,Z O 0 0] w fun e w'=>e=.returned (.bool (decide (n=0)))/\Below w.heap.size w w':=by
 refine V.enter _ Tryz.func229 (Mem.start (C:=Ao) w) ?_
 repeat refine W ?_
 refine R.c (fun w' h'=>Xv A n c w') ?_
 repeat refine W ?_
 refine V.end fun w' h'=>?_;exact⟨rfl,h'.1.below⟩
theorem QQ (A:Option Addr) (c:Nat) (l:List BX) (w:Y) (hP:M5 w A l) (hg:Ea.ErrC w) (hcap:l.length<=c):
  Calls Tryz.prog 196 #[Z A l.length c] w fun e w'=>∃ y:TY,e=.returned (.tuple #[.agg (As y).toArray,I J (D9 (l.map DP)).2])/\Fr w w' [Aq (As y) (D9 (l.map DP)).1]:=by
 have hV:=fun w' (h:Below w.heap.size w w')=>PB A c l 0 (2*(l.map DP).length+2) w' (hP.to h) (hg.to (AI.of_below (C:=Ao) h) (fun e=>e)) (Nat.zero_le _) (by rw[List.length_map];omega);have hne:=fun e=>(Ur (2*(l.map DP).length+2)).1 1 (l.map DP) e;unfold D9 Up;rw[show at_ l 0=l.map DP by unfold at_;rw[List.drop_zero]] at hV;generalize Bl (2*(l.map DP).length+2) 1 (l.map DP)=res at hV hne |-;refine V.enter _ Tryz.func196 (Mem.start (C:=Ao) w) ?_;refine W ?_;refine R.new fun b2 h2=>?_
 repeat refine W ?_
 refine R.cf (fun w' h'=>hV w' h'.1.below) (fun x=>?_);cases res with
 | bad e=>
  dsimp only[frV,frM]
  repeat (first | refine W ?_ | refine R.new fun _ _=>?_)
  refine R.re 15 (v:=.bool (e==0)) (v':=.bool false) (by simp[hne e rfl]) ?_
  repeat refine W ?_
  refine V.end (fun w' h'=>?_) (hv:=.agg rfl (by(repeat (first | exact List.Mem.head _ | apply List.Mem.tail))) (by intro w;kernel_rfl) (by intro w;simp;try rfl) (.tmp rfl .nil));exact⟨EO A4,rfl,(Mem.sel (Mem.tree0 (k:=0) (nm:=⟨#[]⟩) (x:=A4) h'):Mem Ao w [Aq (As (EO A4)) DW] w').to_fr⟩
 | ok t rest=>
  dsimp only[frV,frM]
  repeat (first | refine W ?_ | refine R.new fun _ _=>?_)
  refine R.know (p:=x.2<=l.length/\rest=at_ l x.2) (fun w' h'=>let ⟨_,h1,_⟩:=h'.has (X:=pr (x.2<=l.length/\rest=at_ l x.2)) (by simp);h1) (fun hp=>?_);refine W ?_ (by
   refine R.p (v:=sliced A x.2 l.length c 3) (hv:=?_);intro ρ w h;simp only[Op.operands,EV,List.map_cons,List.map_nil,Array.toList_append,List.toList_toArray,List.nil_append,List.cons_append] at h;have h16:=h.1;have h17:=h.2.1;have h1:=run_sliceAt_slice (P:=Tryz.prog) (w:=w) 215 (Z A l.length c) (F (I J x.2)) O O Tryz.underlying215;have h2:=run_slice_l (P:=Tryz.prog) (w:=w) 215 A l.length c Tryz.underlying215 .i64 x.2 (by omega) (by omega);simp[go_sem,h16,h17,h1,h2])
  repeat refine W ?_
  refine R.c (fun w' h'=>PC _ (l.length - x.2) _ w') ?_;have hrl:rest.length=l.length - x.2:=by rw[hp.2,JG]
  cases rest with
  | nil=>
   rw[decide_eq_true (show l.length - x.2=0 from hrl.symm)]
   repeat refine W ?_
   refine V.end (fun w' h'=>?_) (hv:=.agg rfl (by(repeat (first | exact List.Mem.head _ | apply List.Mem.tail))) (by intro w;kernel_rfl) (by intro w;simp;try rfl) (.tmp rfl .nil));exact⟨x.1,rfl,(h'.sel:Mem Ao w [Aq (As x.1) t] w').to_fr⟩
  | cons u rest=>
   rw[decide_eq_false (show ¬l.length - x.2=0 from fun e=>by rw[e] at hrl;cases hrl)]
   repeat refine W ?_
   refine V.end (fun w' h'=>?_) (hv:=.agg rfl (by(repeat (first | exact List.Mem.head _ | apply List.Mem.tail))) (by intro w;kernel_rfl) (by intro w;simp;try rfl) (.tmp rfl .nil));exact⟨EO A4,rfl,(Mem.sel (Mem.tree0 (k:=0) (nm:=⟨#[]⟩) (x:=A4) h'):Mem Ao w [Aq (As (EO A4)) DW] w').to_fr⟩
end
section
def Tr.nm:Tr->ByteArray
 | .mk _ n _ _ _=>n
def UR (ts:List BX):List Pc:=ts.map fun t=>⟨t.kind,t.str⟩
theorem T3 (ts:List BX):(UR ts).length=ts.length:=by unfold UR;simp
def Sm (M:Nat):Tr->Prop
 | .mk _ _ _ ks ts=>ks.length<=M/\ts.length<=M/\SmTs ts
where SmTs:List Tr->Prop
 | []=>True
 | t::r=>Sm M t/\SmTs r
theorem Zu {M:Nat}:∀ (ts:List Tr) (k:Nat),k<ts.length->Sm.SmTs M ts->Sm M (ts.getD k DW)
 | [],k,h,_=>by simp at h
 | t::r,0,_,h=>by unfold Sm.SmTs at h;exact h.1
 | t::r,k+1,h,hs=>by unfold Sm.SmTs at hs;exact Zu r k (by simpa using h) hs.2
theorem EI (M:Nat):Sm M DW:=by unfold DW Sm Sm.SmTs;exact⟨Nat.zero_le _,Nat.zero_le _,trivial⟩
theorem KZ {M:Nat} {t:Tr} (h:Sm M t) (s:List UInt8):Sm M (t.named s):=by
 cases t
 unfold Tr.named;unfold Sm at h |-;exact h
theorem small (M:Nat):∀ N,N<=M->(∀ p v,p.length<=N->PV p v->Sm M v)/\(∀ p ts,p.length<=N->PI p ts->ts.length<=p.length/\Sm.SmTs M ts)∧
  (∀ p ks ts,p.length<=N->PD p ks ts->ks.length<=p.length/\ts.length<=p.length/\Sm.SmTs M ts)/\(∀ p x v,p.length<=N->PP p x v->Sm M v)
 | 0,_=>⟨fun p v hp h=>by
   have h1:=(OT h).1;have:p=[]:=List.eq_nil_of_length_eq_zero (by omega);exact absurd this h1,fun p ts hp h=>by
   have h1:=Ah7 h;have:p=[]:=List.eq_nil_of_length_eq_zero (by omega);exact absurd this h1,fun p ks ts hp h=>by
   have h1:=Agq h;have:p=[]:=List.eq_nil_of_length_eq_zero (by omega);exact absurd this h1,fun p x v hp h=>by
   have h1:=ZI h;have:p=[]:=List.eq_nil_of_length_eq_zero (by omega);exact absurd this h1⟩
 | N+1,hN=>by
  obtain⟨hV,hI,hD,hP⟩:=small M N (by omega);have V:∀ p v,p.length<=N+1->PV p v->Sm M v:=fun p v hp h=>by
   cases h with
   | key t h=>unfold LU Sm Sm.SmTs;exact⟨Nat.zero_le _,Nat.zero_le _,trivial⟩
   | ali t h=>unfold LJ Sm Sm.SmTs;exact⟨Nat.zero_le _,Nat.zero_le _,trivial⟩
   | nam t p v h _ _ hp'=>exact KZ (hV p v (by simp at hp;omega) hp') _
   | lst t p ts h hp'=>
    obtain⟨h1,h2⟩:=hI p ts (by simp at hp;omega) hp';unfold DZ Sm;exact⟨Nat.zero_le _,by simp at hp;omega,h2⟩
   | dic t p ks ts h hp'=>
    obtain⟨h1,h2,h3⟩:=hD p ks ts (by simp at hp;omega) hp';unfold DG Sm;exact⟨by simp at hp;omega,by simp at hp;omega,h3⟩
  have P:∀ p x v,p.length<=N+1->PP p x v->Sm M v:=fun p x v hp h=>by
   cases h with
   | none k c h hc=>exact EI M
   | some k c p v h hc hp'=>exact hV p v (by simp at hp;omega) hp'
  refine⟨V,fun p ts hp h=>?_,fun p ks ts hp h=>?_,P⟩
  ·cases h with
   | nil c h=>unfold Sm.SmTs;exact⟨by simp,trivial⟩
   | last p v c hp' h=>
    have:=V p v (by simp at hp;omega) hp';unfold Sm.SmTs Sm.SmTs;exact⟨by simp,this,trivial⟩
   | cons p v m q ts hp' h hq=>
    have h0:=V p v (by simp at hp;omega) hp';obtain⟨h1,h2⟩:=hI q ts (by have:=List.length_pos_iff.2 (OT hp').1;simp at hp;omega) hq;rw[Sm.SmTs];exact⟨by simp;omega,h0,h2⟩
  ·cases h with
   | nil c h=>unfold Sm.SmTs;exact⟨by simp,by simp,trivial⟩
   | last p x v c hp' h=>
    have:=P p x v (by simp at hp;omega) hp';unfold Sm.SmTs Sm.SmTs;exact⟨by simp,by simp,this,trivial⟩
   | cons p x v m q ks ts hp' h hq=>
    have h0:=P p x v (by simp at hp;omega) hp';obtain⟨h1,h2,h3⟩:=hD q ks ts (by have:=List.length_pos_iff.2 (ZI hp');simp at hp;omega) hq;rw[Sm.SmTs];exact⟨by simp;omega,by simp;omega,h0,h3⟩
theorem Afp {M:Nat} {p:List Pc} {v:Tr} (h:PV p v) (hp:p.length<=M):Sm M v:=(small M p.length hp).1 p v Nr h
end
section
structure En where
 no:Int
 col:Int
 l:List BX
def VY:BX:=⟨0,[],0⟩
def kat (l:List BX) (i:Nat):Int:=(l.getD i VY).kind
inductive Bg where
 | dash
 | key
 | name (s:List UInt8)
 | plain
deriving DecidableEq
def C9 (l:List BX):Bg:=
 if kat l 0=5 then .dash else if (kat l 0=1\/kat l 0=2)/\kat l 1=6 then .key else if kat l 0=3/\l.length=1 then .name (l.getD 0 VY).str else .plain
inductive BR where
 | ok (t:Tr) (rest:List En)
 | bad (no e:Int)
 | out
def BR.bind:BR->(Tr->List En->BR)->BR
 | .ok t rest,f=>f t rest
 | .bad no e,_=>.bad no e
 | .out,_=>.out
def I2 (no:Int) (l:List BX) (d:Nat) (rest:List En):BR:=
 if 24<d then .bad no 73 else if (D9 (UR l)).2≠0 then .bad no (D9 (UR l)).2 else if 24<Ak (D9 (UR l)).1+d - 1 then .bad no 73 else .ok (D9 (UR l)).1 rest
def LB (no:Int) (s:List UInt8):BR->BR
 | .ok t rest=>if t.kind=3\/t.nm≠⟨#[]⟩ then .bad no 93 else .ok (t.named s) rest
 | b=>b
def Ex (col:Int) (t:Tr) (x:En) (r:List En):BR:=
 if x.col<col then .ok t (x::r) else if col<x.col then .bad x.no 92 else .bad x.no 93
def EA (l:List BX):Sc×Int:=Bd ⟨(l.getD 0 VY).kind,(l.getD 0 VY).str⟩
def GV (x:En):En:=⟨x.no,x.col+(x.l.getD 1 VY).at_ - (x.l.getD 0 VY).at_,x.l.tail⟩
structure GdN (x:En):Prop where
 ne:x.l≠[]
 lo: -10000000<=x.col - (x.l.getD 0 VY).at_
 hi:x.col - (x.l.getD 0 VY).at_<=10000000
 pl:∀ t∈x.l,0<=t.at_/\t.at_<=10000000
mutual
def AV:Nat->Int->Nat->List En->BR
 | 0,_,_,_=>.out
 | n+1,m,d,l=>match l with
  | []=>.out
  | x::r=>if 24<d then .bad x.no 73 else match C9 x.l with
   | .dash=>BW n x.col d (x::r) []
   | .key=>AQ n x.col d (x::r) [] []
   | .name s=>LB x.no s (belowB n x.no m d r)
   | .plain=>I2 x.no x.l d r
def belowB:Nat->Int->Int->Nat->List En->BR
 | 0,_,_,_,_=>.out
 | n+1,no,m,d,l=>match l with
  | []=>if 24<d then .bad no 73 else .ok DW []
  | x::r=>if m<x.col then AV n m d (x::r) else if 24<d then .bad no 73 else .ok DW (x::r)
def BB:Nat->Nat->En->List En->BR
 | 0,_,_,_=>.out
 | n+1,d,x,r=>if x.l.length=1 then belowB n x.no x.col d r else AV n x.col d (GV x::r)
def BW:Nat->Int->Nat->List En->List Tr->BR
 | 0,_,_,_,_=>.out
 | n+1,col,d,l,acc=>match l with
  | []=>.ok (DZ acc) []
  | x::r=>if x.col=col/\C9 x.l=.dash then (BB n (d+1) x r).bind (fun t rest=>BW n col d rest (acc++[t])) else Ex col (DZ acc) x r
def Cb:Nat->Nat->En->List En->BR
 | 0,_,_,_=>.out
 | n+1,d,x,r=>match C9 (x.l.drop 2) with
  | .name s=>LB x.no s (belowB n x.no x.col d r)
  | _=>if x.l.length=2 then belowB n x.no x.col d r else I2 x.no (x.l.drop 2) d r
def AQ:Nat->Int->Nat->List En->List Sc->List Tr->BR
 | 0,_,_,_,_,_=>.out
 | n+1,col,d,l,ks,ts=>match l with
  | []=>.ok (DG ks ts) []
  | x::r=>if x.col=col/\C9 x.l=.key then (if (EA x.l).2≠0 then .bad x.no (EA x.l).2 else (Cb n (d+1) x r).bind (fun t rest=>AQ n col d rest (ks++[(EA x.l).1]) (ts++[t]))) else Ex col (DG ks ts) x r
end
theorem GE {no:Int} {l:List BX} {d:Nat} {r rest:List En} {t:Tr} (h:I2 no l d r=.ok t rest):rest=r/\d+Ak t<=25/\t=(D9 (UR l)).1/\(D9 (UR l)).2=0:=by
 unfold I2 at h;split at h
 ·cases h
 ·split at h
  ·cases h
  ·split at h
   ·cases h
   ·injection h with h1 h2;subst h1 h2;have:=PZ (D9 (UR l)).1;exact⟨rfl,by omega,rfl,Decidable.not_not.1 ‹_›⟩
theorem GQ {no:Int} {s:List UInt8} {b:BR} {t:Tr} {rest:List En} (h:LB no s b=.ok t rest):∃ t',b=.ok t' rest/\t=t'.named s/\¬(t'.kind=3\/t'.nm≠⟨#[]⟩):=by
 cases b with
 | ok t' rest'=>
  unfold LB at h;simp only at h;split at h
  ·cases h
  ·injection h with h1 h2;subst h1 h2;exact⟨t',rfl,rfl,‹_›⟩
 | bad n e=>cases h
 | out=>cases h
theorem Ff {col:Int} {t u:Tr} {x:En} {r rest:List En} (h:Ex col t x r=.ok u rest):u=t/\rest=x::r/\x.col<col:=by
 unfold Ex at h;split at h
 ·injection h with h1 h2;exact⟨h1.symm,h2.symm,‹_›⟩
 ·split at h<;>cases h
end
section
set_option maxHeartbeats 8000000
set_option maxRecDepth 100000
def enC (no col:Int) (A:Option Addr) (n c:Nat):List Value:=[I J no,I J col,Z A n c]
def enV (no col:Int) (A:Option Addr) (n c:Nat):Value:=.agg (enC no col A n c).toArray
theorem K8 (S S2:Nat->Prop) (no col:Int) (A K:Option Addr) (c kc:Nat) (l:List BX) (p:Nat) (ks:List Int) (w:Y) (hl:Fx w S A l) (hk:GT w S2 K ks) (hn:ks.length<=1000000):
  Calls Tryz.prog 193 #[enV no col A l.length c,I J p,Z K ks.length kc] w fun e w'=>e=.returned (.bool (CQ l p ks))/\Below w.heap.size w w':=by
 refine V.enter _ Tryz.func193 (Mem.start (C:=Ao) w) ?_;refine W ?_;refine R.new fun b3 h3=>?_
 repeat refine W ?_
 refine V.loop (fun k=>k<=ks.length/\∀ (j:Nat) y,j<k->ks[j]? =F y->CQ l p [y]=false) (fun _=>Mem Ao w [blk b3 (enC no col A l.length c) 219]) (fun k=>[(11,I J k),(10,I J ks.length),(9,Z K ks.length kc),(1,I J p),(3,.pointer (F ⟨b3,0,O⟩))]) (ks.length - ·) 0 ⟨by omega,fun j y hj=>by omega⟩ (fun w h=>h) ⟨rfl,rfl,rfl,rfl,rfl,trivial⟩ ?_;rintro k ⟨hkl,hne⟩
 repeat refine W ?_
 refine V.ifp (fun hlt=>?_) (fun hge=>?_)
 ·have hlt:k<ks.length:=by omega
  obtain⟨y,hy⟩:∃ y,ks[k]? =F y:=⟨_,List.getElem?_eq_getElem hlt⟩
  obtain⟨b,o,rfl,_,hc⟩:=hk k y hy
  repeat refine W ?_
  refine R.ix hlt ?_;refine R.lo 0 hc ?_
  repeat refine W ?_
  have hgo:CQ l p [y]=false->∀ (j:Nat) z,j<k+1->ks[j]? =F z->CQ l p [z]=false:=fun he j z hj hz=>by
   by_cases e:j=k
   ·subst e;rw[hy] at hz;cases hz;exact he
   ·exact hne j z (by omega) hz
  by_cases hp:p<l.length
  ·obtain⟨t,ht⟩:∃ t,l[p]? =F t:=⟨_,List.getElem?_eq_getElem hp⟩
   obtain⟨tb,ob,rfl,_,htc⟩:=hl p t ht;have h1:CQ l p [y]=(t.kind==y):=by unfold CQ;rw[ht];simp
   have h2:(t.kind==y)=true->CQ l p ks=true:=fun he=>by
    unfold CQ;rw[ht];exact List.any_eq_true.2 ⟨y,List.mem_of_getElem? hy,he⟩
   refine R.yes 20 hp ?_
   repeat refine W ?_
   refine R.ix hp ?_
   repeat refine W ?_
   refine R.lo 0 htc ?_
   repeat refine W ?_
   refine V.if (fun he=>?_) (fun he=>?_)
   ·repeat refine W ?_
    refine V.end fun w' h'=>?_;exact⟨by rw[h2 he];rfl,h'.1.below⟩
   ·repeat refine W ?_
    exact V.again (k+1) rfl ⟨hlt,hgo (h1.trans he)⟩
  ·have h1:CQ l p [y]=false:=by unfold CQ;rw[List.getElem?_eq_none (by omega)]
   refine R.no 20 hp ?_
   repeat refine W ?_
   exact V.again (k+1) rfl ⟨hlt,hgo h1⟩
 ·repeat refine W ?_
  refine V.end fun w' h'=>?_;refine⟨?_,h'.1.below⟩;have:CQ l p ks=false:=by
   cases h:CQ l p ks with
   | false=>rfl
   | true=>
    unfold CQ at h;cases ht:l[p]? with
    | none=>rw[ht] at h;cases h
    | some t=>
     rw[ht] at h;obtain⟨y,hy,he⟩:=List.any_eq_true.1 h;obtain⟨j,hj,rfl⟩:=List.getElem_of_mem hy;have:=hne j _ (by omega) (List.getElem?_eq_getElem hj);unfold CQ at this;rw[ht] at this;simp at this he;exact absurd he this
  rw[this];rfl
theorem Bk (no col:Int) (A:Option Addr) (n c:Nat) (er:Int) (w:Y):
  Calls Tryz.prog 112 #[enV no col A n c,I J er] w fun e w'=>e=.returned (.iface 214 (.agg #[I J no,I J er]))/\Below w.heap.size w w':=by
 refine V.enter _ Tryz.func112 (Mem.start (C:=Ao) w) ?_
 repeat (first | refine W ?_ | refine R.new fun _ _=>?_)
 refine V.end fun w' h'=>?_;exact⟨rfl,h'.1.below⟩
def Pw:Bg->Value
 | .dash=>.iface 292 (.agg #[])
 | .key=>.iface 293 (.agg #[])
 | .name s=>.iface 295 (.agg #[Q ⟨s.toArray⟩])
 | .plain=>.iface 333 (.agg #[])
theorem KK {l:List BX} {p:Nat} {ks:List Int} (h0:ks.any (fun y=>(0:Int)==y)=false):CQ l p ks=ks.any fun y=>kat l p==y:=by
 unfold CQ kat;rw[List.getD_eq_getElem?_getD];cases h:l[p]? with
 | none=>exact h0.symm
 | some t=>rfl
theorem G0 (S:Nat->Prop) (no col:Int) (A:Option Addr) (c:Nat) (l:List BX) (w:Y) (hl:Fx w S A l):
  Calls Tryz.prog 151 #[enV no col A l.length c] w fun e w'=>e=.returned (Pw (C9 l))/\Below w.heap.size w w':=by
 have hto:∀ {w':Y},AI Ao w w'->Fx w' S A l:=fun hx=>hl.to fun b o v hb hv=>⟨hx.cell hv (fun e=>e),hb⟩
 have hb:C9 l=if CQ l 0 [5] then .dash else if CQ l 0 [1,2]&&CQ l 1 [6] then .key else if CQ l 0 [3]&&decide (l.length=1) then .name (l.getD 0 VY).str else .plain:=by
  unfold C9;rw[KK (by decide),KK (by decide),KK (by decide),KK (by decide)];simp
 rw[hb];clear hb;refine V.enter _ Tryz.func151 (Mem.start (C:=Ao) w) ?_;refine W ?_;refine R.new fun b1 h1=>?_
 repeat refine W ?_
 refine R.bs (m:=1) (cs:=[I J 5]) (bt:=3) (fun bk hb=>?_);refine R.c (fun w' h'=>K8 S (fun _=>True) no col A (F ⟨bk,0,O⟩) c 1 l 0 [5] w' (hto h'.1) (isRow (Cs.of_blk (h'.blk (List.Mem.head _)))) (by simp)) ?_
 repeat refine W ?_
 cases e1:CQ l 0 [5] with
 | true=>
  repeat refine W ?_
  refine V.end fun w' h'=>?_;exact⟨rfl,h'.1.below⟩
 | false=>
  repeat refine W ?_
  refine R.bs (m:=2) (cs:=[I J 1,I J 2]) (bt:=3) (fun bk hb=>?_);refine R.c (fun w' h'=>K8 S (fun _=>True) no col A (F ⟨bk,0,O⟩) c 2 l 0 [1,2] w' (hto h'.1) (isRow (Cs.of_blk (h'.blk (List.Mem.head _)))) (by simp)) ?_;have hlen:CQ l 0 [3]=true->0<l.length:=fun h=>by
   unfold CQ at h;cases ht:l[0]? with
   | none=>rw[ht] at h;cases h
   | some t=>exact(List.getElem?_eq_some_iff.1 ht).1
  cases e2:CQ l 0 [1,2]
  rotate_left
  repeat refine W ?_
  refine R.bs (m:=1) (cs:=[I J 6]) (bt:=3) (fun bk hb=>?_);refine R.c (fun w' h'=>K8 S (fun _=>True) no col A (F ⟨bk,0,O⟩) c 1 l 1 [6] w' (hto h'.1) (isRow (Cs.of_blk (h'.blk (List.Mem.head _)))) (by simp)) ?_
  repeat refine W ?_
  cases e3:CQ l 1 [6]
  rotate_left
  repeat refine W ?_
  refine V.end fun w' h'=>?_;exact⟨rfl,h'.1.below⟩;all_goals
   repeat refine W ?_
   refine R.bs (m:=1) (cs:=[I J 3]) (bt:=3) (fun bk hb=>?_);refine R.c (fun w' h'=>K8 S (fun _=>True) no col A (F ⟨bk,0,O⟩) c 1 l 0 [3] w' (hto h'.1) (isRow (Cs.of_blk (h'.blk (List.Mem.head _)))) (by simp)) ?_
   repeat refine W ?_
   cases e4:CQ l 0 [3]
   ·repeat refine W ?_
    refine V.end fun w' h'=>?_;exact⟨rfl,h'.1.below⟩
   ·have hl0:=hlen e4;obtain⟨t,ht⟩:∃ t,l[0]? =F t:=⟨_,List.getElem?_eq_getElem hl0⟩
    repeat refine W ?_
    by_cases h1:l.length=1
    ·obtain⟨b,o,rfl,_,hc⟩:=hl 0 t ht;refine V.re 20 (v:=.bool ((l.length:Int)==1)) (v':=.bool true) (by simp[h1]) ?_
     repeat refine W ?_
     refine R.ix (k:=0) hl0 ?_
     repeat refine W ?_
     refine R.lo 1 hc ?_
     repeat refine W ?_
     refine V.end fun w' h'=>?_;exact⟨by rw[decide_eq_true h1,List.getD_eq_getElem?_getD,ht];rfl,h'.1.below⟩
    ·refine V.re 20 (v:=.bool ((l.length:Int)==1)) (v':=.bool false) (by simp;omega) ?_
     repeat refine W ?_
     refine V.end fun w' h'=>?_;exact⟨by rw[decide_eq_false h1];rfl,h'.1.below⟩
end
section
set_option maxRecDepth 100000
section
variable {P:Program} {n:Nat} {ds:List Deferred} {d:Bool} {ops:Array Oper} {K:Act->Y->Prop} {i:Nat} {T pl pend:List Nat} {S Zf:Y->Prop} {l:Env} {t:Nat} {ty:TypeId} {ps:String} {af:Array Edge} {gd:Option (Nat×Bool)}
abbrev Z4 (b o c k sz:Nat):Option Addr:=if c=k then F ⟨b,o,O⟩ else F ⟨b,o+k*sz,O⟩
theorem Yf {x y:Operand} {tt:TypeId} {b o m c k sz:Nat} (hk:k<=m) (hm:m<=c) (hu:P.underlying tt=F (.slice (P.elem tt))) (hs:∀ w,(sizeOf (P.elem tt)).run P w=.ok sz w) (hx:ev l x=F (Z (F ⟨b,o,O⟩) m c)) (hy:ev l y=F (I J k)) (a:Act) (w:Y) (ha:Kn n ds l a):
  (execOp a.eval ⟨F t,.slice tt x (F y) O O,ty,ps,af,gd⟩).run P w=.ok (.value (Z (Z4 b o c k sz) (m - k) (c - k))) w:=by
 have h1:=run_sliceAt_slice (P:=P) (w:=w) tt (Z (F ⟨b,o,O⟩) m c) (F (I J k)) O O hu;have h2:=run_slice_l (P:=P) (w:=w) tt (F ⟨b,o,O⟩) m c hu .i64 k (by omega) (by omega);have h3:sliced (F ⟨b,o,O⟩) k m c sz=Z (Z4 b o c k sz) (m - k) (c - k):=by
  unfold sliced;have h4:(⟨b,o,O⟩:Addr).add (k*sz)=⟨b,o+k*sz,O⟩:=by unfold Addr.add;split<;>simp_all
  unfold Z4;split
  ·rfl
  ·show Value.slice (F ((⟨b,o,O⟩:Addr).add (k*sz))) _ _=_;rw[h4]
 simp[execOp,ha.ev hx,ha.ev hy,h1,h2,hs,h3,Sem.run_bind,Sem.run,pure,Result.andThen]
theorem R.sl {x y:Operand} {tt:TypeId} {b o m c k sz:Nat} (hk:k<=m) (hm:m<=c) (h:∀ A',(k<m->A'=F ⟨b,o+k*sz,O⟩)->Rj P n ds d ops K pl pend S ((t,Z A' (m - k) (c - k))::l)) (hu:P.underlying tt=F (.slice (P.elem tt)):=by kernel_rfl) (hs:∀ w,(sizeOf (P.elem tt)).run P w=.ok sz w:=by intro w;kernel_rfl) (ho:Aw ops.toList i=F ⟨F t,.slice tt x (F y) O O,ty,ps,af,gd⟩:=by rfl)
  (hx:ev l x=F (Z (F ⟨b,o,O⟩) m c):=by rfl) (hy:ev l y=F (I J k):=by rfl) (hg:Cv ops.toList l gd=F true:=by rfl):Rj P n ds d ops K (i::pl) pend S l:=
 R.takeP ho hg rfl (by rw[if_pos rfl];exact fun a w ha=>Yf hk hm hu hs hx hy a w ha) (h _ (fun hlt=>by unfold Z4;rw[if_neg (by omega)]))
theorem Zz.sl {x y:Operand} {tt:TypeId} {b o m c k sz:Nat} (hk:k<=m) (hm:m<=c) (h:∀ A',(k<m->A'=F ⟨b,o+k*sz,O⟩)->Rz P n ds d ops K T pl pend Zf S ((t,Z A' (m - k) (c - k))::l)) (hz:∀ w,S w->Zf w:=by exact fun w h=>h.sel) (hu:P.underlying tt=F (.slice (P.elem tt)):=by kernel_rfl) (hs:∀ w,(sizeOf (P.elem tt)).run P w=.ok sz w:=by intro w;kernel_rfl) (ho:Aw ops.toList i=F ⟨F t,.slice tt x (F y) O O,ty,ps,af,gd⟩:=by rfl)
  (hx:ev l x=F (Z (F ⟨b,o,O⟩) m c):=by rfl) (hy:ev l y=F (I J k):=by rfl) (hg:Cv ops.toList l gd=F true:=by rfl):Rz P n ds d ops K T (i::pl) pend Zf S l:=
 Zz.take false hz ho hg rfl (by rw[if_pos rfl];exact fun a w ha _=>Yf hk hm hu hs hx hy a w ha) (h _ (fun hlt=>by unfold Z4;rw[if_neg (by omega)]))
end
abbrev Cn:=En×Option Addr×Nat
def M6 (x:Cn):List Value:=enC x.1.no x.1.col x.2.1 x.1.l.length x.2.2
def epV (x:Cn):Value:=enV x.1.no x.1.col x.2.1 x.1.l.length x.2.2
structure EnQ where
 A:Option Addr
 v:Value
 pre:List Value
 c:Nat
 n:Nat
abbrev rdB (rb:Nat) (A:Option Addr) (n c:Nat):Aj:=blk rb [Z A n c] 157
abbrev L9 (v:Value) (n:Nat) (xs:List Value):Aj:=Af 219 3 v n xs
def EnO (es:List Cn) (q:EnQ):Prop:=es.length<=q.c/\(es≠[]->∃ b cn,q.A=F ⟨b,q.pre.length,O⟩/\q.v=Z (F ⟨b,0,O⟩) q.n cn)
def Dq (rb:Nat) (es:List Cn):Aj:=Hf fun q:EnQ=>star [pr (EnO es q),rdB rb q.A es.length q.c,L9 q.v q.n (q.pre++es.flatMap M6)]
section
variable {C:Nat->Prop} {w0 w:Y} {Zz:List Aj} {rb:Nat} {x:Cn} {r es:List Cn}
theorem P3 (h:Mem C w0 (Dq rb (x::r)::Zz) w):∃ q:EnQ×Nat×Nat,(x::r).length<=q.1.c/\Mem C w0 (rdB rb (F ⟨q.2.1,q.1.pre.length,O⟩) (x::r).length q.1.c::L9 (Z (F ⟨q.2.1,0,O⟩) q.1.n q.2.2) q.1.n (q.1.pre++(x::r).flatMap M6)::Zz) w:=by
 obtain⟨q,hq⟩:=h.ex;have hs:=hq.star;obtain⟨_,⟨h1,h2⟩,_⟩:=hs.has (X:=pr (EnO (x::r) q)) (by simp);obtain⟨b,cn,e1,e2⟩:=h2 (by simp);refine⟨(q,b,cn),h1,?_⟩;rw[<- e1,<- e2];exact hs.sub (.cons _ (List.Sublist.refl _))
theorem RX {b c n cn:Nat} {pre:List Value} (h:Mem C w0 (rdB rb (F ⟨b,pre.length,O⟩) es.length c::L9 (Z (F ⟨b,0,O⟩) n cn) n (pre++es.flatMap M6)::Zz) w) (hc:es.length<=c):Mem C w0 (Dq rb es::Zz) w:=by
 have h2:=h.pr (p:=EnO es ⟨F ⟨b,pre.length,O⟩,Z (F ⟨b,0,O⟩) n cn,pre,c,n⟩) ⟨hc,fun _=>⟨b,cn,rfl,rfl⟩⟩;exact Mem.toEx (⟨F ⟨b,pre.length,O⟩,Z (F ⟨b,0,O⟩) n cn,pre,c,n⟩:EnQ) (Mem.toStar (B:=[_,_,_]) h2)
theorem Aci {A:Option Addr} {v:Value} {n c:Nat} {pre:List Value} (h:Mem C w0 (rdB rb A 0 c::L9 v n pre::Zz) w):Mem C w0 (Dq rb []::Zz) w:=by
 have h2:=h.pr (p:=EnO [] ⟨A,v,pre,c,n⟩) ⟨Nat.zero_le _,fun h=>absurd rfl h⟩;refine Mem.toEx (⟨A,v,pre,c,n⟩:EnQ) (Mem.toStar (B:=[_,_,_]) ?_);dsimp only
 rw[show pre++List.flatMap M6 []=pre by simp];exact h2
theorem DA (rb:Nat) (x:Cn) (r:List Cn) (C:Nat->Prop) (w0 w:Y) (Zz:List Aj) (h:Mem C w0 Zz w) (hx:Dq rb (x::r)∈Zz) (hn:(x::r).length<=1000000):
  Calls Tryz.prog 110 #[.pointer (F ⟨rb,0,O⟩)] w fun e w'=>e=.returned (.tuple #[epV x,.bool true])/\Below w.heap.size w w':=by
 obtain⟨Fz,⟨⟨A,v,pre,c,N⟩,F3,⟨hcc,hoff⟩,s0,F1,⟨hb,hR⟩,s1,F2,ho,_⟩,_⟩:=h.has hx;obtain⟨b,cN,e1,e2⟩:=hoff (by simp);dsimp only at hR ho hcc e1 e2;subst e1 e2;have hc:Cs w rb 0 [Z (F ⟨b,pre.length,O⟩) (x::r).length c]:=Cs.of_blk hR;have hrow:=(Af.cs ho).drop pre.length;rw[List.drop_left,Nat.zero_add] at hrow;have hxc:Cs w b pre.length (M6 x):=fun j u hj=>hrow j u (by rw[List.flatMap_cons,List.getElem?_append_left (List.getElem?_eq_some_iff.1 hj).1];exact hj);refine V.enter _ Tryz.func110 (Mem.start (C:=Ao) w) ?_;refine W ?_;refine R.new fun b2 h2=>?_
 repeat refine W ?_
 refine R.lo 0 hc ?_
 repeat refine W ?_
 refine R.lo 0 hc ?_
 repeat refine W ?_
 refine R.lo (m:=3) 0 hxc ?_
 repeat refine W ?_
 refine V.end (fun w' h'=>?_) (hv:=.agg rfl (by(repeat (first | exact List.Mem.head _ | apply List.Mem.tail))) (by intro w;kernel_rfl) (by intro w;simp;try rfl) (.tmp rfl .nil));exact⟨rfl,h'.1.below⟩
theorem Ep (rb:Nat) (C:Nat->Prop) (w0 w:Y) (Zz:List Aj) (h:Mem C w0 Zz w) (hx:Dq rb []∈Zz):
  Calls Tryz.prog 110 #[.pointer (F ⟨rb,0,O⟩)] w fun e w'=>e=.returned (.tuple #[enV 0 0 O 0 0,.bool false])/\Below w.heap.size w w':=by
 obtain⟨Fz,⟨⟨A,v,pre,c,N⟩,F3,_,s0,F1,⟨hb,hR⟩,_⟩,_⟩:=h.has hx;have hc:Cs w rb 0 [Z A 0 c]:=Cs.of_blk hR;refine V.enter _ Tryz.func110 (Mem.start (C:=Ao) w) ?_;refine W ?_;refine R.new fun b2 h2=>?_
 repeat refine W ?_
 refine R.lo 0 hc ?_
 repeat refine W ?_
 refine V.end (fun w' h'=>?_) (hv:=.agg rfl (by(repeat (first | exact List.Mem.head _ | apply List.Mem.tail))) (by intro w;kernel_rfl) (by intro w;simp;try rfl) (.tmp rfl .nil));exact⟨rfl,h'.1.below⟩
theorem IV (rb:Nat) (x:Cn) (r:List Cn) (w:Y) (hn:(x::r).length<=1000000):
  BT Tryz.prog 153 #[.pointer (F ⟨rb,0,O⟩)] w (Dq rb (x::r)) (fun _=>True) (fun _:Unit=>.tuple #[]) (fun _=>Dq rb r):=by
 intro Fz hX hF _;refine V.enter _ Tryz.func153 (Mem.startX hX hF) ?_;refine V.any (fun w h=>P3 h) (fun q=>?_);obtain⟨⟨A,v,pre,c,N⟩,b,cN⟩:=q;refine V.know (fun w h=>h.1) (fun hcc=>?_);refine V.pre (S':=Mem Fz w [rdB rb (F ⟨b,pre.length,O⟩) (x::r).length c,L9 (Z (F ⟨b,0,O⟩) N cN) N (pre++(x::r).flatMap M6)]) ?_ (fun w h=>h.2);dsimp only at hcc
 repeat refine W ?_
 refine R.sl (k:=1) (sz:=3) (by simp) hcc (fun A' hA'=>?_)
 repeat refine W ?_
 refine V.end fun w' h'=>?_;refine⟨(),rfl,?_⟩;have h2:Mem Fz w [rdB rb A' r.length (c - 1),L9 (Z (F ⟨b,0,O⟩) N cN) N (pre++(x::r).flatMap M6)] w':=h'.sel;cases r with
 | nil=>exact Mem.toW (Aci h2)
 | cons y r=>
  obtain rfl:=hA' (by simp);rw[List.flatMap_cons,<- List.append_assoc,show pre.length+1*3=(pre++M6 x).length by rw[List.length_append];rfl] at h2;exact Mem.toW (RX h2 (by simp at hcc |-;omega))
theorem Aek (rb:Nat) (x y:Cn) (r:List Cn) (w:Y) (hn:(x::r).length<=1000000):
  BT Tryz.prog 226 #[.pointer (F ⟨rb,0,O⟩),epV y] w (Dq rb (x::r)) (fun _=>True) (fun _:Unit=>.tuple #[]) (fun _=>Dq rb (y::r)):=by
 intro Fz hX hF _;refine V.enter _ Tryz.func226 (Mem.startX hX hF) ?_;refine V.any (fun w h=>P3 h) (fun q=>?_);obtain⟨⟨A,v,pre,c,N⟩,b,cN⟩:=q;refine V.know (fun w h=>h.1) (fun hcc=>?_);refine V.pre (S':=Mem Fz w [rdB rb (F ⟨b,pre.length,O⟩) (x::r).length c,L9 (Z (F ⟨b,0,O⟩) N cN) N (pre++(x::r).flatMap M6)]) ?_ (fun w h=>h.2);dsimp only at hcc;refine W ?_;refine R.new fun b3 h3=>?_
 repeat refine W ?_
 refine W ?_ (by exact R.sw (xs':=pre++(y::r).flatMap M6) (CO pre _ 0 _ _ (Gk (M6 x) 0 (M6 y) (M6 y) _ rfl)) (hp:=.inr (.inl ⟨rfl,by kernel_rfl⟩)))
 repeat refine W ?_
 refine V.end fun w' h'=>?_;exact⟨(),rfl,Mem.toW (RX (es:=y::r) h'.sel hcc)⟩
end
end
end Go.Proofs.YtdpppepmkeinaaaGreatDoor
