/- What is proved: a part of the walk of the program and of its plain laws; no condition beside those that each theorem names. -/
import Derived.Test.YtdpppepmkeinaaaGreatDoorYxc
import Derived.Test.YtdpppepmkeinaaaGreatDoorYa
namespace Go.Proofs.YtdpppepmkeinaaaGreatDoor
open Go Go.RowKit Go.Lib
open Go.Value renaming int->I,string->Q,slice->Z
open Go.IntKind renaming i64->J
open Option renaming none->O,some->F
open _root_.Go renaming World->Y
set_option linter.unusedSimpArgs false
set_option linter.unusedVariables false
set_option linter.unusedSectionVars false
section
set_option maxHeartbeats 8000000
set_option maxRecDepth 100000
def Gj (m d:Nat):List Pc->Sc×FR
 | []=>(AJ,.bad 91)
 | t::r=>if (B3 t).2≠0 then (AJ,.bad (B3 t).2) else if hk r≠6 then (AJ,.bad 91) else if 24<d then (AJ,.bad 73) else
  if hk r.tail=7\/hk r.tail=11 then ((B3 t).1,.ok Ei r.tail) else ((B3 t).1,AB m d r.tail)
section
variable {wB:Y} {A:Option Addr} {c:Nat} {l:List C8}
theorem V5 (hP:Ok wB A l) (q m d:Nat) (hV:Yp wB A c l m d) (hn:2*(l.length - q)<=m+1) (hq:q<=l.length) (r:Nat) (w:Y) (hB:Below wB.heap.size wB w):
  Dm Tryz.prog 288 #[.pointer (F ⟨r,0,O⟩),I J d] w (Cv A c l r q) (Hx wB) (fun x:TY×Nat=>itV true (Gj m d (at_ l q)).1 (Gj m d (at_ l q)).2 x.1) (fun x=>Ur A c l r (Gj m d (at_ l q)).2 x):=by
 have hk:Gj m d (at_ l q)=if (E2 l q).2≠0 then (AJ,.bad (E2 l q).2) else if Eg l (q+1) [6]=false then (AJ,.bad 91) else if 24<d then (AJ,.bad 73) else
   if Eg l (q+2) [7,11] then ((E2 l q).1,.ok Ei (at_ l (q+2))) else ((E2 l q).1,AB m d (at_ l (q+2))):=by
  unfold E2;cases ht:l[q]? with
  | none=>
   have:at_ l q=[]:=by unfold at_;rw[List.drop_eq_nil_iff.2 (List.getElem?_eq_none_iff.1 ht)];rfl
   rw[this];rfl
  | some t=>
   rw[show at_ l q=Fm t::at_ l (q+1) from My ht,Ai0 (by decide),Wf (by decide)];unfold Gj;dsimp only
   rw[Mu];simp only[decide_eq_false_iff_not,List.any_cons,List.any_nil,Bool.or_false,Bool.or_eq_true,beq_iff_eq]
 have hlq:(E2 l q).2=0->q<l.length:=fun h=>by
  unfold E2 at h;cases ht:l[q]? with
  | none=>rw[ht] at h;cases h
  | some t=>exact(List.getElem?_eq_some_iff.1 ht).1
 rw[hk];clear hk;have hkey:=fun w' (h:Below wB.heap.size wB w')=>Ph (c:=c) hP r q w' h hq;obtain⟨kr,hkr⟩:∃ x,E2 l q=x:=⟨_,rfl⟩
 rw[hkr] at hkey hlq |-;clear hkr;intro Fz hX hF hQ;refine V.enter _ Tryz.func288 (Mem.startX hX hF) ?_
 repeat refine W ?_
 refine R.cq (fun w' h'=>hkey w' (B4.belowB hB hQ h'.1)) (fun G hG=>Hx.of hB hQ G hG) (fun _=>?_);by_cases he:kr.2=0
 ·have hlt:=hlq he;rw[if_pos he,if_pos he,if_neg (fun h=>h he)];iterate 3 refine W ?_
  refine R.new fun b5 h5=>?_
  repeat refine W ?_
  refine R.cq (fun w' h'=>Is (c:=c) hP r (q+1) 6 w' (B4.belowB hB hQ h'.1) hlt) (fun G hG=>Hx.of hB hQ G hG) (fun _=>?_);cases h6:Eg l (q+1) [6] with
  | false=>
   repeat refine W ?_
   refine R.c (fun w' h'=>CZ 91 w') ?_
   repeat refine W ?_
   refine V.end fun w' h'=>?_;exact⟨(GE AJ,0),rfl,Mem.toW (h'.pr (p:=True) trivial).sel⟩
  | true=>
   have hlt2:=KQ h6
   repeat refine W ?_
   refine V.ifp (fun hd=>?_) (fun hd=>?_)
   ·have hd:24<d:=by omega
    rw[if_neg (by simp),if_pos hd]
    repeat refine W ?_
    refine R.c (fun w' h'=>CZ 73 w') ?_
    repeat refine W ?_
    refine V.end fun w' h'=>?_;exact⟨(GE AJ,0),rfl,Mem.toW (h'.pr (p:=True) trivial).sel⟩
   ·have hd:¬24<d:=by omega
    rw[if_neg (by simp),if_neg hd]
    repeat refine W ?_
    refine R.bs (m:=2) (cs:=[I J 7,I J 11]) (bt:=3) (fun bk hb=>?_);refine R.c (fun w' h'=>JM (fun b=>b<wB.heap.size) (fun _=>True) r A (F ⟨bk,0,O⟩) c 2 l (q+2) [7,11] w' (Adh h' (by simp)) (hP.at hB hQ h'.1) (isRow (Cs.of_blk (h'.blk (List.Mem.head _)))) (by simp)) ?_
    repeat refine W ?_
    refine V.if (fun hc=>?_) (fun hc=>?_)
    ·rw[hc,if_pos rfl]
     repeat refine W ?_
     refine V.end fun w' h'=>?_;exact⟨(GE AJ,q+2),rfl,P7 (Mem.sel (Mem.tree0 (k:=0) (nm:=⟨#[]⟩) (x:=AJ) h')) hlt2 rfl⟩
    ·rw[hc,if_neg (by simp)]
     repeat refine W ?_
     refine R.cq (fun w' h'=>hV (q+2) hlt2 (by omega) r w' (B4.belowB hB hQ h'.1)) (fun G hG=>Hx.of hB hQ G hG) (fun x=>?_);cases AB m d (at_ l (q+2)) with
     | bad e=>
      dsimp only[Ur,MF,Us]
      repeat refine W ?_
      refine V.end fun w' h'=>?_;exact⟨x,rfl,Mem.toW h'.sel⟩
     | ok v rest=>
      dsimp only[Ur,MF]
      repeat (first | refine W ?_ | refine R.new fun _ _=>?_)
      refine V.end fun w' h'=>?_;exact⟨x,rfl,Mem.toW h'.sel⟩
 ·rw[if_neg he,if_neg he,if_pos he]
  repeat (first | refine W ?_ | refine R.new fun _ _=>?_)
  refine V.end fun w' h'=>?_;exact⟨(GE AJ,0),rfl,Mem.toW (h'.pr (p:=True) trivial).sel⟩
end
end
section
set_option maxHeartbeats 32000000
set_option maxRecDepth 100000
theorem Y7:El Tryz.prog 37 36 3 32:=⟨by kernel_rfl,by kernel_rfl,by decide,by decide⟩
theorem Xa (d:Nat):Aic 11 (fun m L=>Gj m (d+1) L) (fun m L xs=>AP m d L (xs.map (·.1)) (xs.map Jd)) (fun xs=>BT (xs.map (·.1)) (xs.map Jd)) where
 k0:=by decide
 e:=fun m L xs h=>by
  cases L with
  | nil=>cases h
  | cons t r=>rw[AP,if_pos h]
 b:=fun m L xs e h he=>by
  cases L with
  | nil=>unfold AP;unfold Gj at he;rw[if_neg h];exact he
  | cons t r=>
   rw[AP,if_neg h];unfold Gj at he;dsimp only at he |-;split at he<;>rename_i h1
   ·rw[if_pos h1];exact he
   ·rw[if_neg h1];split at he<;>rename_i h2
    ·rw[if_pos h2];exact he
    ·rw[if_neg h2];split at he<;>rename_i h3
     ·rw[if_pos h3];exact he
     ·rw[if_neg h3];split at he<;>rename_i h4
      ·cases he
      ·rw[not_or] at h4;rw[if_neg h4.1,if_neg h4.2];dsimp only at he;rw[he]
 o:=fun m L xs x v rest h hx ho=>by
  rw[List.map_append,List.map_append,List.map_singleton,List.map_singleton,show Jd x=v by unfold Jd;rw[ho]];rw[ho] at hx;cases L with
  | nil=>cases congrArg Prod.snd hx
  | cons t r=>
   rw[AP,if_neg h];unfold Gj at hx;dsimp only at hx |-;split at hx<;>rename_i h1
   ·cases congrArg Prod.snd hx
   ·rw[if_neg h1];split at hx<;>rename_i h2
    ·cases congrArg Prod.snd hx
    ·rw[if_neg h2];split at hx<;>rename_i h3
     ·cases congrArg Prod.snd hx
     ·rw[if_neg h3];have hx1:x.1=(B3 t).1:=by split at hx<;>exact congrArg Prod.fst hx
      split at hx<;>rename_i h4
      ·have h5:=congrArg Prod.snd hx;cases h5
       rw[hx1];rcases h4 with h4 | h4
       ·rw[if_pos h4,if_pos h4]
       ·rw[if_neg (by rw[h4];decide),if_pos h4,if_neg (by rw[h4];decide),if_pos h4]
      ·rw[not_or] at h4;rw[if_neg h4.1,if_neg h4.2,show AB m (d+1) r.tail=.ok v rest from(congrArg Prod.snd hx).symm,hx1]
 len:=fun m L v rest h=>by
  cases L with
  | nil=>cases h
  | cons t r=>
   unfold Gj at h;dsimp only at h;have h5:r.tail.length<=(t::r).length:=by rw[List.length_tail,List.length_cons];omega
   split at h
   ·cases h
   split at h
   ·cases h
   split at h
   ·cases h
   split at h
   ·cases h;exact h5
   ·exact Nat.le_trans (Od h) h5
section
variable {wB:Y} {A:Option Addr} {c:Nat} {l:List C8}
theorem ST (hP:Ok wB A l) (b2 b3 r m d q:Nat) (hd:d<=24) (hV:Yp wB A c l m (d+1)) (hn:2*(l.length - q)<=m+1) (hq:q<=l.length) (w:Y) (hB:Below wB.heap.size wB w):
  Dm Tryz.prog 287 #[.pointer (F ⟨b2,0,O⟩),.pointer (F ⟨b3,0,O⟩)] w (star [Ks b2 b3 r d,Cv A c l r q]) (Hx wB) (fun x:TY×Nat=>itV true (Gj m (d+1) (at_ l q)).1 (Gj m (d+1) (at_ l q)).2 x.1) (fun x=>star [Ks b2 b3 r d,Ur A c l r (Gj m (d+1) (at_ l q)).2 x]):=by
 intro Fz hX hF hQ;have hC:=fun w' (h:Below wB.heap.size wB w')=>V5 hP q m (d+1) hV hn hq r w' h;generalize Gj m (d+1) (at_ l q)=res at hC |-;refine V.enter _ Tryz.func287 (Mem.startX hX hF) ?_;refine V.star ?_;unfold Ks;refine V.star ?_
 repeat refine W ?_
 refine R.cq (fun w' h'=>hC w' (B4.belowB hB hQ h'.1)) (fun G hG=>Hx.of hB hQ G hG) (fun x=>?_)
 repeat refine W ?_
 refine V.end fun w' h'=>?_;exact⟨x,rfl,Mem.toW (Mem.toStar (B:=[star [_,_],Ur A c l r res.2 x]) (A:=[]) (Mem.toStar (B:=[_,_]) h'.sel))⟩
abbrev mpB (b:Nat) (kv v:Value):Aw:=blk b [I J 2,Q ⟨#[]⟩,I J 0,I J 0,Q ⟨#[]⟩,kv,v] 53
abbrev nlB (b:Nat):Aw:=blk b [.nilIface] 400
abbrev ZzP:=(Option Addr×Nat)×(Option Addr×Nat)
abbrev dcZ (b5 n:Nat) (kl:List Value) (tl:List Value) (z:ZzP):List Aw:=[mpB b5 (Z z.1.1 n z.1.2) (Z z.2.1 n z.2.2),An 36 3 (Z z.1.1 n z.1.2) n kl,An 53 7 (Z z.2.1 n z.2.2) n tl]
def UO (xs:List HY):List Value:=(xs.map (·.1)).flatMap Fl
def dcB (b4 b5:Nat) (xs:List HY):List Aw:=[nlB b4,JB fun z:ZzP=>star (dcZ b5 xs.length (UO xs) (E0 xs).flatten z),star (CC (xs.map Jd) (E0 xs)),pr (E1 xs)]
theorem Aev {C:Nat->Prop} {w0 w:Y} {T:Aw} {b4 b5:Nat} {pre:List HY} {sx:Sc} {t:Tr} {rest:List Pc} {y:TY} {m:Nat} {z:ZzP} (h:Mem C w0 ([A9 (AM y) t,nlB b4]++dcZ b5 (pre.length+1) (UO pre++Fl sx) ((E0 pre).flatten++AM y) z++[star (CC (pre.map Jd) (E0 pre)),T]) w) (hok:E1 pre):
  Mem C w0 (dcB b4 b5 (pre++[(sx,.ok t rest,y,m)])++[T]) w:=by
 have e2:E0 (pre++[(sx,FR.ok t rest,y,m)])=E0 pre++[AM y]:=by unfold E0;rw[List.map_append];rfl
 have e3:(pre++[(sx,FR.ok t rest,y,m)]).map Jd=pre.map Jd++[t]:=by rw[List.map_append];rfl
 have e4:UO (pre++[(sx,FR.ok t rest,y,m)])=UO pre++Fl sx:=by unfold UO;rw[List.map_append,List.flatMap_append];simp
 unfold dcB;rw[List.length_append,e2,e3,e4,List.flatten_append,Ik _ _ _ _ (by unfold E0;rw[List.length_map,List.length_map])];have h1:Mem C w0 (star (CC (pre.map Jd) (E0 pre)++[A9 (AM y) t])::([nlB b4]++dcZ b5 (pre.length+1) (UO pre++Fl sx) ((E0 pre).flatten++AM y) z++[T])) w:=FK (B:=[A9 (AM y) t]) h.sel;have h2:=h1.pr (p:=E1 (pre++[(sx,FR.ok t rest,y,m)])) (Lt hok ⟨t,rest,rfl⟩);have h3:Mem C w0 (dcZ b5 (pre.length+1) (UO pre++Fl sx) ((E0 pre).flatten++AM y) z++([nlB b4,star (CC (pre.map Jd) (E0 pre)++[A9 (AM y) t]),pr (E1 (pre++[(sx,FR.ok t rest,y,m)]))]++[T])) w:=h2.sel;have h4:=Mem.toEx (f:=fun z:ZzP=>star (dcZ b5 (pre.length+1) (UO pre++Fl sx) ((E0 pre).flatten++AM y) z)) z (Mem.toStar h3);rw[show[AM y].flatten=AM y by simp];exact h4.sel
theorem V9 (hP:Ok wB A l) (p d n:Nat) (t:C8) (ht:l[p]? =F t) (hd:¬24<d) (hn:2*(l.length - p)<=n) (hV:∀ m,m<n->Yp wB A c l m (d+1)):Zs wB A c l 277 p d (AP n d (at_ l (p+1)) [] []):=by
 intro r w hB Fz hX hF hQ;have hlt:=(List.getElem?_eq_some_iff.1 ht).1;have hlen:=hP.len;refine V.enter _ Tryz.func277 (Mem.startX hX hF) ?_;refine W ?_;refine R.new fun b2 h2=>?_;refine R.new fun b3 h3=>?_;refine R.new fun b4 h4=>?_;unfold Cv
 repeat refine W ?_
 refine R.new fun b5 h5=>?_
 repeat refine W ?_
 refine R.cf (fun w' h'=>L4 r 11 287 #[.pointer (F ⟨b2,0,O⟩),.pointer (F ⟨b3,0,O⟩)] w') (fun q=>?_);refine R.z ?_;have hI:ItP wB A c l r 287 [.pointer (F ⟨b2,0,O⟩),.pointer (F ⟨b3,0,O⟩)] (Ks b2 b3 r d) true 11 (p+1) n (Adi l (fun m L=>Gj m (d+1) L) n):={
  rd:=hP
  hf:=by intro args w;simp
  hp0:=hlt
  hn0:=by omega
  len:=fun i q t rest h=>by have:=(Xa d).len _ _ _ _ h;rw[Lx] at this;exact this
  one:=fun i q w hB hq hn=>ST hP b2 b3 r (n - i - 1) d q (by omega) (hV (n - i - 1) (by omega)) (by omega) hq w hB}
 refine V.range (Ac5 hI q.1 q.2.1 q.2.2) (dcB b4 b5) (fun co xs=>[JB fun e=>star [pr (co=.ret/\AP n d (at_ l (p+1)) [] []=.bad e),blk b4 [Us e] 400]])
  (fun w' h=>?_) (fun w1 w2 G h hb hG=>⟨B4.belowB hB hQ (h.1.trans (B4.of_below (C:=Fz) hb) (fun _ _ e=>e)),Hx.of hB hQ G hG⟩) (fun r' pre x Wb C' T T' Rl hadm hx hC hmid=>?_) (fun D xs hfin=>?_) (fun D co xs=>?_)
 ·have h0:Mem Fz w ([blk b2 [.pointer (F ⟨r,0,O⟩)] 394,blk b3 [I J d] 3]++[mpB b5 (Z O 0 0) (Z O 0 0),nlB b4,Cv A c l r (p+1),blk q.1 [.pointer (F ⟨r,0,O⟩)] 394,blk q.2.1 [I J 11] 3,blk q.2.2 [.func (.func 287) #[] #[.pointer (F ⟨b2,0,O⟩),.pointer (F ⟨b3,0,O⟩)]] 442]) w':=h.sel;have h1:Mem Fz w (dcZ b5 0 [] [] ((O,0),(O,0))++[Ks b2 b3 r d,nlB b4,Cv A c l r (p+1),blk q.1 [.pointer (F ⟨r,0,O⟩)] 394,blk q.2.1 [I J 11] 3,blk q.2.2 [.func (.func 287) #[] #[.pointer (F ⟨b2,0,O⟩),.pointer (F ⟨b3,0,O⟩)]] 442]) w':=(((Mem.toStar h0).ownNil 53 7).ownNil 36 3).sel;have h3:=Mem.toEx (f:=fun z:ZzP=>star (dcZ b5 0 [] [] z)) ((O,0),(O,0)) (Mem.toStar h1);have h4:=(Mem.toStar (B:=[]) h3).pr (p:=E1 []) (fun x hx=>by cases hx);exact h4.sel
 ·obtain⟨sx,sr,y,m⟩:=x;cases sr with
  | bad e=>
   have hbad:=TH (Xa d) (by omega) hlt hadm rfl
   repeat refine W ?_
   refine V.mid hmid ?_;dsimp only[itV,Us]
   repeat (first | refine W ?_ | refine R.new fun _ _=>?_)
   refine V.pre (S':=Mem C' Wb [JB fun e=>star [pr (Code.ret=.ret/\AP n d (at_ l (p+1)) [] []=.bad e),blk b4 [Us e] 400],T']) ?_ (by intro w' h';exact Mem.toEx e (Mem.toStar (B:=[_,_]) (Mem.sel (h'.pr (p:=Code.ret=.ret/\AP n d (at_ l (p+1)) [] []=.bad e) ⟨rfl,hbad⟩))));exact V.rr
  | ok t rest=>
   repeat refine W ?_
   refine V.mid hmid ?_;dsimp only[itV]
   rw[if_pos rfl];have hpl:pre.length+1<=1000000:=by obtain⟨q,hq,_⟩:=hadm;have:=(hq.list (Xa d) (by omega) hlt).1;omega
   iterate 14 (first | refine W ?_ | refine R.new fun _ _=>?_)
   refine V.prop (p:=E1 pre) (fun hok=>?_) (hp:=by simp[dcB]);iterate 3 refine W ?_
   refine R.new fun b10 h10=>?_;iterate 2 refine W ?_
   refine V.pre (S':=Mem C' Wb [JB fun z:ZzP=>star (dcZ b5 pre.length (UO pre) (E0 pre).flatten z),blk b10 (Fl sx++AM y) 448,A9 (AM y) t,nlB b4,star (CC (pre.map Jd) (E0 pre)),T']) ?_ (by intro w' h';exact h'.sel);refine V.ex (fun z=>?_);refine V.star ?_;refine V.regT [4,5,11,12,13,14,15,16] [0,1,2,3,6,7,8,9,10] (Mem C' Wb [mpB b5 (Z z.1.1 pre.length z.1.2) (Z z.2.1 pre.length z.2.2),blk b10 (Fl sx++AM y) 448]) ?_;iterate 9 refine Wz ?_
   refine Zz.last (ι:=(Nat×Nat)×(Nat×Nat)) (Si:=fun u=>Mem C' Wb ([A9 (AM y) t,nlB b4]++dcZ b5 (pre.length+1) (UO pre++Fl sx) ((E0 pre).flatten++AM y) ((F ⟨u.1.1,0,O⟩,u.1.2),(F ⟨u.2.1,0,O⟩,u.2.2))++[star (CC (pre.map Jd) (E0 pre)),T'])) (li:=fun _=>[]) (fun hV=>?_) (fun u=>?_)
   ·refine Zz.fk 4 11 (T1:=[]) (R1:=[5,11,12,13,14,15,16]) (T2:=[4,5,13,12,14,15,16]) (R2:=[]) (d1:=by exact D.bs (m:=1)) (d2:=by exact D.bs (m:=1)) (h1:=fun bk=>?_) (h2:=fun bt=>?_);refine Zz.fk 5 11 (T1:=[13,11,12,14,15,16]) (R1:=[]) (T2:=[5,13,12,14,15,16]) (R2:=[]) (d1:=by exact D.app Y7 (k:=pre.length) (m:=1) (xs:=UO pre) (news:=Fl sx) (fun w' h'=>(Cs.of_blk (h'.blk (by repeat (first | exact List.Mem.head _ | apply List.Mem.tail)))).add) (by omega)) (d2:=by exact D.bs (m:=1)) (h1:=fun u1=>?_) (h2:=fun bt=>?_);refine Wz ?_;refine Zz.do (hd:=by exact D.bs (m:=1)) (h:=fun bt=>?_);refine Zz.do (hd:=by exact D.app elT (k:=pre.length) (m:=1) (xs:=(E0 pre).flatten) (news:=AM y) (fun w' h'=>(Cs.of_blk (h'.blk (by repeat (first | exact List.Mem.head _ | apply List.Mem.tail)))).add) (by omega)) (h:=fun u2=>?_);replace hV:=hV (u1,u2)
    rotate_left
    refine Zz.do (hd:=by exact D.app Y7 (k:=pre.length) (m:=1) (xs:=UO pre) (news:=Fl sx) (fun w' h'=>(Cs.of_blk (h'.blk (by repeat (first | exact List.Mem.head _ | apply List.Mem.tail)))).add) (by omega)) (h:=fun u1=>?_);refine Wz ?_;refine Zz.do (hd:=by exact D.app elT (k:=pre.length) (m:=1) (xs:=(E0 pre).flatten) (news:=AM y) (fun w' h'=>(Cs.of_blk (h'.blk (by repeat (first | exact List.Mem.head _ | apply List.Mem.tail)))).add) (by omega)) (h:=fun u2=>?_);replace hV:=hV (u1,u2)
    rotate_left
    refine Zz.do (hd:=by exact D.bs (m:=1)) (h:=fun bk=>?_);refine Zz.do (hd:=by exact D.app Y7 (k:=pre.length) (m:=1) (xs:=UO pre) (news:=Fl sx) (fun w' h'=>(Cs.of_blk (h'.blk (by repeat (first | exact List.Mem.head _ | apply List.Mem.tail)))).add) (by omega)) (h:=fun u1=>?_);refine Wz ?_;refine Zz.do (hd:=by exact D.app elT (k:=pre.length) (m:=1) (xs:=(E0 pre).flatten) (news:=AM y) (fun w' h'=>(Cs.of_blk (h'.blk (by repeat (first | exact List.Mem.head _ | apply List.Mem.tail)))).add) (by omega)) (h:=fun u2=>?_);replace hV:=hV (u1,u2);all_goals
     refine Zz.clr (Mem C' Wb []) (hd:=by exact D.st) (h:=fun _=>?_);refine Wz ?_;refine Zz.do (hd:=by exact D.st) (h:=fun _=>?_);refine Zz.off (fun w' h'=>h'.sel) ?_;exact R.z (V.less hV (fun w' h'=>h'.sel))
   ·refine V.pre (S':=Mem C' Wb (dcB b4 b5 (pre++[(sx,.ok t rest,y,m)])++[T'])) ?_ (fun w' h'=>Aev (z:=((F ⟨u.1.1,0,O⟩,u.1.2),(F ⟨u.2.1,0,O⟩,u.2.2))) h' hok);exact V.rn
 ·refine V.prop (p:=E1 xs) (fun hok=>?_) (hp:=by simp[dcB]);obtain⟨m,hm,hrd,hres⟩:=SW (Xa d) (by omega) hlt (A:=A) (c:=c) (r:=r) hfin hok;rw[show AP n d (at_ l (p+1)) [] []=_ from hres];refine V.pre (S':=Mem Fz w [JB fun z:ZzP=>star (dcZ b5 xs.length (UO xs) (E0 xs).flatten z),Ks b2 b3 r d,Cv A c l r m,Q3 D (.deferred (F [])),nlB b4,star (CC (xs.map Jd) (E0 xs))]) ?_ (by intro w' h';rw[hrd] at h';exact h'.sel);refine V.ex (fun z=>?_);refine V.star ?_;refine V.pre (S':=Mem Fz w ([Ks b2 b3 r d,Cv A c l r m,Q3 D (.deferred (F [])),nlB b4,star (CC (xs.map Jd) (E0 xs))]++dcZ b5 xs.length (UO xs) (E0 xs).flatten z)) ?_ (by intro w' h';exact h'.sel);refine V.star ?_
  repeat refine W ?_
  refine R.cq (fun w' h'=>LE (c:=c) hP r m 11 (2,⟨#[]⟩,AJ,(z.1.1,xs.length,z.1.2),(z.2.1,xs.length,z.2.2)) w' (B4.belowB hB hQ h'.1) hm) (fun G hG=>Hx.of hB hQ G hG) (fun _=>?_);cases h9:Eg l m [11] with
  | true=>
   repeat refine W ?_
   refine V.end fun w' h'=>?_;have h1:Mem Fz w (An 36 3 (Z z.1.1 xs.length z.1.2) (xs.map (·.1)).length ((xs.map (·.1)).flatMap Fl)::An 53 7 (Z z.2.1 xs.length z.2.2) (xs.map Jd).length (E0 xs).flatten::star (CC (xs.map Jd) (E0 xs))::[Cv A c l r (m+1)]) w':=by rw[List.length_map,List.length_map];exact h'.sel
   have h2:=Gq (k:=2) (nm:=⟨#[]⟩) (x:=AJ) (ks:=xs.map (·.1)) (by unfold E0;rw[List.length_map,List.length_map]) (⟨h1.1,h1.2.as fun Fz w h=>An.ks h⟩);exact⟨((2,⟨#[]⟩,AJ,(z.1.1,xs.length,z.1.2),(z.2.1,xs.length,z.2.2)),m+1),rfl,P7 h2.sel (KQ h9) rfl⟩
  | false=>
   repeat refine W ?_
   refine V.end fun w' h'=>?_;exact⟨(GE AJ,0),rfl,Mem.toW (h'.pr (p:=True) trivial).sel⟩
 ·refine V.pre (S':=Mem Fz w [JB fun e=>star [pr (co=.ret/\AP n d (at_ l (p+1)) [] []=.bad e),blk b4 [Us e] 400],Q3 D (.deferred (F []))]) ?_ (by intro w' h';exact h'.sel);refine V.ex (fun e=>?_);refine V.star ?_;refine V.prop (p:=co=.ret/\AP n d (at_ l (p+1)) [] []=.bad e) (fun⟨hco,hbad⟩=>?_);subst hco;rw[hbad];refine V.end fun w' h'=>?_;exact⟨(GE AJ,0),rfl,Mem.toW (h'.pr (p:=True) trivial).sel⟩
end
end
section
set_option maxHeartbeats 32000000
set_option maxRecDepth 100000
section
variable {wB:Y} {A:Option Addr} {c:Nat} {l:List C8}
theorem WO {f:FuncId} {p d:Nat} {r1 r2:FR} (h:Zs wB A c l f p d r1) (e:r1=r2):Zs wB A c l f p d r2:=by rw[<- e];exact h
theorem QQ (hP:Ok wB A l) (n d q:Nat) (hq:q<=l.length) (hn:2*(l.length - q)<=n) (hV:∀ m,m<=n->∀ d,Yp wB A c l m d):Zs wB A c l 257 q d (AB (n+1) d (at_ l q)):=by
 have hlen:=hP.len;by_cases hd:24<d
 ·rw[show AB (n+1) d (at_ l q)=.bad 73 by unfold AB;rw[if_pos hd]];intro r w hB Fz hX hF hQ;refine V.enter _ Tryz.func257 (Mem.startX hX hF) ?_
  repeat (first | refine W ?_ | refine R.new fun _ _=>?_)
  refine V.ifp (fun _=>?_) (fun h=>absurd (show(24:Int)<(d:Int) by omega) h)
  repeat refine W ?_
  refine R.c (fun w' h'=>CZ 73 w') ?_
  repeat refine W ?_
  refine V.end fun w' h'=>?_;exact⟨(GE AJ,0),rfl,Mem.toW (h'.pr (p:=True) trivial).sel⟩
 ·cases ht:l[q]? with
  | none=>
   have hge:=List.getElem?_eq_none_iff.1 ht;have:at_ l q=[]:=by unfold at_;rw[List.drop_eq_nil_iff.2 hge];rfl
   rw[this,show AB (n+1) d []=.bad 91 by unfold AB;rw[if_neg hd]];intro r w hB Fz hX hF hQ;refine V.enter _ Tryz.func257 (Mem.startX hX hF) ?_;unfold Cv
   repeat (first | refine W ?_ | refine R.new fun _ _=>?_)
   refine V.ifp (fun h=>absurd (show(24:Int)<(d:Int) from h) (by omega)) (fun h=>?_)
   repeat refine W ?_
   refine V.ifp (fun h=>?_) (fun h=>absurd hge h)
   repeat refine W ?_
   refine R.c (fun w' h'=>CZ 91 w') ?_
   repeat refine W ?_
   refine V.end fun w' h'=>?_;exact⟨(GE AJ,0),rfl,Mem.toW (h'.pr (p:=True) trivial).sel⟩
  | some t=>
   have hlt:=(List.getElem?_eq_some_iff.1 ht).1;have hat:at_ l q=Fm t::at_ l (q+1):=My ht;obtain⟨b,o,rfl,hb,hc0⟩:=hP.tks q t ht;obtain⟨kd,ts,ta⟩:=t;have hlast:kd=3\/kd=4\/kd=8\/kd=10\/kd=1\/kd=2\/kd=0\/kd=5\/kd=6\/kd=7\/kd=9\/(kd<0\/11<=kd):=by omega
   have hres:kd≠1->kd≠2->kd≠3->kd≠4->kd≠8->kd≠10->AB (n+1) d (at_ l q)=.bad 91:=fun h1 h2 h3 h4 h8 h10=>by
    rw[hat,AB,if_neg hd,if_neg (show ¬(Fm ⟨kd,ts,ta⟩).kind=3 from h3),if_neg (show ¬(Fm ⟨kd,ts,ta⟩).kind=4 from h4),if_neg (show ¬(Fm ⟨kd,ts,ta⟩).kind=8 from h8),if_neg (show ¬(Fm ⟨kd,ts,ta⟩).kind=10 from h10)];unfold B3;rw[if_neg (show ¬(Fm ⟨kd,ts,ta⟩).kind=1 from h1),if_neg (show ¬(Fm ⟨kd,ts,ta⟩).kind=2 from h2)];rfl
   have hgo:∀ f,(kd=1\/kd=2)/\f=273\/kd=3/\f=274\/kd=4/\f=275\/kd=8/\f=276\/kd=10/\f=277->Zs wB (F ⟨b,o,O⟩) c l f q d (AB (n+1) d (at_ l q)):=by
    rintro f (⟨h,rfl⟩ | ⟨rfl,rfl⟩ | ⟨rfl,rfl⟩ | ⟨rfl,rfl⟩ | ⟨rfl,rfl⟩)
    ·refine WO (Rx hP q d _ ht) ?_;rw[hat,AB,if_neg hd];rcases h with rfl | rfl<;>rfl
    ·exact Tn hP q d n _ ht hd rfl (hV n (Nat.le_refl n) d (q+1) hlt (by omega))
    ·refine WO (YG hP q d _ ht) ?_;rw[hat,AB,if_neg hd];rfl
    ·refine WO (Vl hP q d n _ ht hd rfl hn (fun m hm=>hV m (by omega) (d+1))) ?_;rw[hat,AB,if_neg hd];rfl
    ·refine WO (V9 hP q d n _ ht hd hn (fun m hm=>hV m (by omega) (d+1))) ?_;rw[hat,AB,if_neg hd];rfl
   clear hat;intro r w hB Fz hX hF hQ;have hc:Cs w b (o+q*3) (Eo ⟨kd,ts,ta⟩):=fun j u hj=>cell_below (hc0 j u hj) hB;have hnF:¬Fz b:=fun e=>by have:=hQ b e;omega
   generalize AB (n+1) d (at_ l q)=res at hgo hres |-;refine V.enter _ Tryz.func257 (Mem.startX hX hF) ?_
   repeat (first | refine W ?_ | refine R.new fun _ _=>?_)
   refine V.ifp (fun h=>absurd (show(24:Int)<(d:Int) from h) (by omega)) (fun h=>?_);unfold Cv
   repeat refine W ?_
   refine V.ifp (fun h=>absurd (show l.length<=q by omega) (by omega)) (fun h=>?_)
   repeat refine W ?_
   refine R.ix hlt ?_
   repeat refine W ?_
   refine R.lo 0 hc ?_ hnF;iterate 2 refine W ?_
   rcases hlast with rfl | rfl | rfl | rfl | rfl | rfl | rfl | rfl | rfl | rfl | rfl | hlast;iterate 6
    ·repeat refine W ?_
     refine R.cq (fun w' h'=>hgo _ (by first | exact .inl ⟨.inl rfl,rfl⟩ | exact .inl ⟨.inr rfl,rfl⟩ | exact .inr (.inl ⟨rfl,rfl⟩) | exact .inr (.inr (.inl ⟨rfl,rfl⟩)) | exact .inr (.inr (.inr (.inl ⟨rfl,rfl⟩))) | exact .inr (.inr (.inr (.inr ⟨rfl,rfl⟩)))) r w' (B4.belowB hB hQ h'.1)) (fun G hG=>Hx.of hB hQ G hG) (fun x=>?_)
     repeat refine W ?_
     refine V.end fun w' h'=>?_;exact⟨x,rfl,Mem.toW h'.sel⟩
   iterate 5
    ·rw[hres (by decide) (by decide) (by decide) (by decide) (by decide) (by decide)]
     repeat refine W ?_
     refine R.c (fun w' h'=>CZ 91 w') ?_
     repeat refine W ?_
     refine V.end fun w' h'=>?_;exact⟨(GE AJ,0),rfl,Mem.toW (h'.pr (p:=True) trivial).sel⟩
   rw[hres (by omega) (by omega) (by omega) (by omega) (by omega) (by omega)];rcases hlast with hlast | hlast
   ·iterate 3 refine W ?_
    refine R.yes (p:=kd<0) 58 hlast ?_
    repeat refine W ?_
    refine R.c (fun w' h'=>CZ 91 w') ?_
    repeat refine W ?_
    refine V.end fun w' h'=>?_;exact⟨(GE AJ,0),rfl,Mem.toW (h'.pr (p:=True) trivial).sel⟩
   ·iterate 3 refine W ?_
    refine R.no (p:=kd<0) 58 (by omega) ?_;iterate 3 refine W ?_
    refine R.yes (p:=11<=kd) 61 hlast ?_
    repeat refine W ?_
    refine R.c (fun w' h'=>CZ 91 w') ?_
    repeat refine W ?_
    refine V.end fun w' h'=>?_;exact⟨(GE AJ,0),rfl,Mem.toW (h'.pr (p:=True) trivial).sel⟩
theorem Ai5 (hP:Ok wB A l):∀ n d,Yp wB A c l n d:=fun n=>by
 induction n using Nat.strongRecOn with
 | _ n ih=>
  intro d q hq hn;cases n with
  | zero=>omega
  | succ n=>exact QQ hP n d q hq (by omega) (fun m hm=>ih m (by omega))
end
end
section
set_option maxHeartbeats 8000000
open Go Go.RowKit Go.Extern.Stop Go.Stop Go.Extern
set_option maxRecDepth 100000
namespace Ea
theorem asF:U9 418 419 1 where
 valueOfP _ _:=by kernel_rfl
 typeP _ _:=by kernel_rfl
 kindP _:=by kernel_rfl
 kindE _:=by kernel_rfl
 partsP _ _:=by kernel_rfl
 undP:=by kernel_rfl
 elemP _:=by kernel_rfl
 impE _:=by kernel_rfl
 typeOfE _ _:=by kernel_rfl
 assE _:=by kernel_rfl
 valueOfE vs w h:=by rcases vs with _ | ⟨a,_ | ⟨b,r⟩⟩<;>first | (simp at h;done) | kernel_rfl
 elemOfP _:=by kernel_rfl
 mkE _ _:=by kernel_rfl
 partsA _ _:=by kernel_rfl
 partsE _ _:=by kernel_rfl
 dirE _:=by kernel_rfl
 sizeE _:=by kernel_rfl
 aggE _:=by kernel_rfl
theorem f_told (e:Int) (w:Y) (hg:ErrC w):Calls Tryz.prog 258 #[fwV e] w fun ev w'=>ev=.returned (I J e)/\Below w.heap.size w w':=by
 refine V.enter _ Tryz.func258 (Mem.start (C:=A5) w) ?_
 repeat refine W ?_
 refine R.new fun tb htb=>?_
 repeat refine W ?_
 refine R.cw (X:=blk tb [I J 0] 418) (v:=fun _:Unit=>.bool true) (X':=fun _=>blk tb [I J e] 418) (fun w' h'=>M5 asF (vs:=[I J e]) rfl rfl rfl w' (h'.1.cell hg fun e=>e) (fun e=>by have:=HO hg;omega)) (fun _=>?_)
 repeat refine W ?_
 refine V.end fun w' h'=>?_;exact⟨rfl,h'.1.below⟩
end Ea
def frV (r:FR) (x:TY×Nat):Value:=match r with
 | .ok _ _=>.tuple #[.agg (AM x.1).toArray,I J x.2,I J 0]
 | .bad e=>.tuple #[.agg (AM (GE AJ)).toArray,I J 0,I J e]
def frM (l:List C8) (r:FR) (x:TY×Nat):List Aw:=match r with
 | .ok t rest=>[A9 (AM x.1) t,pr (x.2<=l.length/\rest=at_ l x.2)]
 | .bad _=>[]
theorem Sj (A:Option Addr) (c:Nat) (l:List C8) (p n:Nat) (w:Y) (hP:Ok w A l) (hg:Ea.ErrC w) (hp:p<=l.length) (hn:2*(l.length - p)+1<=n):
  Calls Tryz.prog 228 #[Z A l.length c,I J p] w fun e w'=>∃ x:TY×Nat,e=.returned (frV (AB n 1 (at_ l p)) x)/\Fr w w' (frM l (AB n 1 (at_ l p)) x):=by
 have hV:=fun r w' (h:Below w.heap.size w w')=>Ai5 (c:=c) hP n 1 p hp hn r w' h;generalize AB n 1 (at_ l p)=res at hV |-;refine V.enter _ Tryz.func228 (Mem.start (C:=A5) w) ?_;refine W ?_;refine R.new fun b4 h4=>?_
 repeat refine W ?_
 refine R.new fun r hr=>?_
 repeat refine W ?_
 refine R.cq (X:=Cv A c l r p) (fun w' h'=>hV r w' h'.1.below) (fun G hG b hb=>(hG b hb).elim id (fun e=>e.elim)) (fun x=>?_);iterate 2 refine W ?_
 cases res with
 | bad e=>
  dsimp only[Ur,MF,Us]
  repeat (first | refine W ?_ | refine R.new fun _ _=>?_)
  refine R.c (fun w' h'=>Ea.f_told e w' (h'.1.cell hg fun e=>e)) ?_
  repeat refine W ?_
  refine V.end (fun w' h'=>?_) (hv:=.agg rfl (by(repeat (first | exact List.Mem.head _ | apply List.Mem.tail))) (by intro w;kernel_rfl) (by intro w;simp;try rfl) (.tmp rfl (.tmp rfl .nil)));exact⟨x,rfl,(h'.sel:Mem A5 w [] w').to_fr⟩
 | ok t rest=>
  dsimp only[Ur,MF]
  refine V.star ?_;iterate 15 (first | refine W ?_ | refine R.new fun _ _=>?_)
  refine Zz.on (Mem A5 w [Cv A c l r x.2]) ?_;unfold Cv;iterate 6 refine Wz ?_
  refine Zz.do (hd:=by exact D.ci (fun w' h'=>OW x.1 w') (Ai8 _) (Ajv _)) (h:=fun _=>?_);iterate 3 refine Wy ?_
  refine Zz.off (fun w' h'=>h'.sel) ?_;refine R.z ?_;refine V.end (fun w' h'=>?_) (hv:=.agg rfl (by(repeat (first | exact List.Mem.head _ | apply List.Mem.tail))) (by intro w;kernel_rfl) (by intro w;simp;try rfl) (.tmp rfl (.tmp rfl .nil)));exact⟨x,rfl,(h'.sel:Mem A5 w [A9 (AM x.1) t,pr (x.2<=l.length/\rest=at_ l x.2)] w').to_fr⟩
end
section
set_option maxHeartbeats 8000000
set_option maxRecDepth 100000
theorem Ok.to {w w':Y} {A:Option Addr} {l:List C8} (h:Ok w A l) (hb:Below w.heap.size w w'):Ok w' A l:=⟨h.tks.to fun b o v hl hv=>⟨cell_below hv hb,Nat.lt_of_lt_of_le hl hb.size⟩,h.len,h.small,h.tabs.below hb⟩
theorem Yz (A:Option Addr) (n c:Nat) (w:Y):Calls Tryz.prog 259 #[Z A n c,Z O 0 0] w fun e w'=>e=.returned (.bool (decide (n=0)))/\Below w.heap.size w w':=by
 refine V.enter _ Tryz.func259 (Mem.start (C:=A5) w) ?_
 repeat refine W ?_
 by_cases h:n=0
 ·subst h
  repeat refine W ?_
  refine V.loop (ι:=Unit) (fun _=>True) (fun _=>Mem A5 w []) (fun _=>[(13,I J 0),(12,I J 0)]) (fun _=>0) () trivial (fun w h=>h) ⟨rfl,rfl,trivial⟩ ?_;intro _ _
  repeat refine W ?_
  refine V.end fun w' h'=>?_;exact⟨rfl,h'.1.below⟩
 ·refine V.re 10 (v:=.bool ((n:Int) !=0)) (v':=.bool true) (by simp[h]) ?_
  repeat refine W ?_
  refine V.end fun w' h'=>?_;exact⟨by rw[decide_eq_false h];rfl,h'.1.below⟩
theorem RW (A:Option Addr) (n c:Nat) (w:Y):Calls Tryz.prog 229 #[Z A n c,Z O 0 0] w fun e w'=>e=.returned (.bool (decide (n=0)))/\Below w.heap.size w w':=by
 refine V.enter _ Tryz.func229 (Mem.start (C:=A5) w) ?_
 repeat refine W ?_
 refine R.c (fun w' h'=>Yz A n c w') ?_
 repeat refine W ?_
 refine V.end fun w' h'=>?_;exact⟨rfl,h'.1.below⟩
theorem TX (A:Option Addr) (c:Nat) (l:List C8) (w:Y) (hP:Ok w A l) (hg:Ea.ErrC w) (hcap:l.length<=c):
  Calls Tryz.prog 196 #[Z A l.length c] w fun e w'=>∃ y:TY,e=.returned (.tuple #[.agg (AM y).toArray,I J (Bl (l.map Fm)).2])/\Fr w w' [A9 (AM y) (Bl (l.map Fm)).1]:=by
 have hV:=fun w' (h:Below w.heap.size w w')=>Sj A c l 0 (2*(l.map Fm).length+2) w' (hP.to h) (hg.to (B4.of_below (C:=A5) h) (fun e=>e)) (Nat.zero_le _) (by rw[List.length_map];omega);have hne:=fun e=>(VD (2*(l.map Fm).length+2)).1 1 (l.map Fm) e;unfold Bl Iu;rw[show at_ l 0=l.map Fm by unfold at_;rw[List.drop_zero]] at hV;generalize AB (2*(l.map Fm).length+2) 1 (l.map Fm)=res at hV hne |-;refine V.enter _ Tryz.func196 (Mem.start (C:=A5) w) ?_;refine W ?_;refine R.new fun b2 h2=>?_
 repeat refine W ?_
 refine R.cf (fun w' h'=>hV w' h'.1.below) (fun x=>?_);cases res with
 | bad e=>
  dsimp only[frV,frM]
  repeat (first | refine W ?_ | refine R.new fun _ _=>?_)
  refine R.re 15 (v:=.bool (e==0)) (v':=.bool false) (by simp[hne e rfl]) ?_
  repeat refine W ?_
  refine V.end (fun w' h'=>?_) (hv:=.agg rfl (by(repeat (first | exact List.Mem.head _ | apply List.Mem.tail))) (by intro w;kernel_rfl) (by intro w;simp;try rfl) (.tmp rfl .nil));exact⟨GE AJ,rfl,(Mem.sel (Mem.tree0 (k:=0) (nm:=⟨#[]⟩) (x:=AJ) h'):Mem A5 w [A9 (AM (GE AJ)) Ei] w').to_fr⟩
 | ok t rest=>
  dsimp only[frV,frM]
  repeat (first | refine W ?_ | refine R.new fun _ _=>?_)
  refine R.know (p:=x.2<=l.length/\rest=at_ l x.2) (fun w' h'=>let ⟨_,h1,_⟩:=h'.has (X:=pr (x.2<=l.length/\rest=at_ l x.2)) (by simp);h1) (fun hp=>?_);refine W ?_ (by
   refine R.p (v:=sliced A x.2 l.length c 3) (hv:=?_);intro ρ w h;simp only[Op.operands,GD,List.map_cons,List.map_nil,Array.toList_append,List.toList_toArray,List.nil_append,List.cons_append] at h;have h16:=h.1;have h17:=h.2.1;have h1:=run_sliceAt_slice (P:=Tryz.prog) (w:=w) 215 (Z A l.length c) (F (I J x.2)) O O Tryz.underlying215;have h2:=run_slice_l (P:=Tryz.prog) (w:=w) 215 A l.length c Tryz.underlying215 .i64 x.2 (by omega) (by omega);simp[go_sem,h16,h17,h1,h2])
  repeat refine W ?_
  refine R.c (fun w' h'=>RW _ (l.length - x.2) _ w') ?_;have hrl:rest.length=l.length - x.2:=by rw[hp.2,Lx]
  cases rest with
  | nil=>
   rw[decide_eq_true (show l.length - x.2=0 from hrl.symm)]
   repeat refine W ?_
   refine V.end (fun w' h'=>?_) (hv:=.agg rfl (by(repeat (first | exact List.Mem.head _ | apply List.Mem.tail))) (by intro w;kernel_rfl) (by intro w;simp;try rfl) (.tmp rfl .nil));exact⟨x.1,rfl,(h'.sel:Mem A5 w [A9 (AM x.1) t] w').to_fr⟩
  | cons u rest=>
   rw[decide_eq_false (show ¬l.length - x.2=0 from fun e=>by rw[e] at hrl;cases hrl)]
   repeat refine W ?_
   refine V.end (fun w' h'=>?_) (hv:=.agg rfl (by(repeat (first | exact List.Mem.head _ | apply List.Mem.tail))) (by intro w;kernel_rfl) (by intro w;simp;try rfl) (.tmp rfl .nil));exact⟨GE AJ,rfl,(Mem.sel (Mem.tree0 (k:=0) (nm:=⟨#[]⟩) (x:=AJ) h'):Mem A5 w [A9 (AM (GE AJ)) Ei] w').to_fr⟩
end
end Go.Proofs.YtdpppepmkeinaaaGreatDoor
