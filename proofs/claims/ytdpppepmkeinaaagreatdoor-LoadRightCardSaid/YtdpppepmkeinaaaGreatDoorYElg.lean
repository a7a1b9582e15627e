import Derived.Test.YtdpppepmkeinaaaGreatDoorYl
import Derived.Test.YtdpppepmkeinaaaGreatDoorYt
import Derived.Test.YtdpppepmkeinaaaGreatDoorYi
import Derived.Test.YtdpppepmkeinaaaGreatDoorYv
import Derived.Test.YtdpppepmkeinaaaGreatDoorYx
import Derived.Test.YtdpppepmkeinaaaGreatDoorYm
import Derived.Test.YtdpppepmkeinaaaGreatDoorYxa
import Derived.Test.YtdpppepmkeinaaaGreatDoorYy
import Derived.Test.YtdpppepmkeinaaaGreatDoorYr
/- What is proved: the law returns true whatever comes in; no condition beside those that each theorem names. -/
namespace Go.Proofs.YtdpppepmkeinaaaGreatDoor
set_option maxHeartbeats 16000000
open Go
open Go.Value renaming int->I,string->Q,slice->Z
open Go.IntKind renaming i64->J
open Option renaming none->O,some->F
open _root_.Go renaming World->Y
set_option linter.unusedVariables false
set_option linter.unusedSimpArgs false
open Go Go.RowKit Go.Lib
open Go Go.RowKit
set_option maxRecDepth 100000
section
theorem PW {chk:Tr->Int->St->Int} {t:Tr} (h:(A8 chk t).2≠0):(A8 chk t).1=Ib:=by
 unfold A8 at h |-;split at h
 ·exact absurd rfl h
 ·rename_i he;rw[if_neg he]
def B8 (ns:List Nd) (i:Int):List Int:=match ns[i.toNat]? with
 | some x=>AB x
 | none=>[]
def EK (ns:List Nd):Nat->List Int->List Int->List Int
 | 0,_,met=>met
 | _+1,[],met=>met
 | f+1,i::r,met=>if i∈met then EK ns f r met else EK ns f (B8 ns i++r) (met++[i])
def Cu (ns:List Nd) (todo met:List Int):Nat:=todo.length+((List.range ns.length).map fun j:Nat=>if (j:Int)∈met then 0 else (B8 ns j).length).sum
def E9 (ns:List Nd) (root:Int):List Int:=EK ns (Cu ns [root] []) [root] []
theorem Qf {f g:Nat->Nat} {i:Nat}:∀ {l:List Nat},l.Nodup->i∈l->(∀ j,j≠i->f j=g j)->(l.map f).sum+g i=(l.map g).sum+f i
 | [],_,h,_=>by cases h
 | a::l,hn,h,he=>by
  obtain⟨h1,h2⟩:=List.nodup_cons.1 hn;rw[List.map_cons,List.map_cons,List.sum_cons,List.sum_cons];by_cases e:a=i
  ·subst e;have:l.map f=l.map g:=List.map_congr_left fun j hj=>he j (fun e=>h1 (e▸hj));rw[this];omega
  ·have:=Qf h2 ((List.mem_cons.1 h).resolve_left (fun e'=>e e'.symm)) he;rw[he a e];omega
theorem Nk {ns:List Nd} {i:Int} {r met:List Int} (hi:0<=i/\i<ns.length) (hm:i∉met):Cu ns (B8 ns i++r) (met++[i])+1=Cu ns (i::r) met:=by
 unfold Cu;have:=Qf (f:=fun j:Nat=>if (j:Int)∈met++[i] then 0 else (B8 ns j).length) (g:=fun j:Nat=>if (j:Int)∈met then 0 else (B8 ns j).length) (i:=i.toNat) (l:=List.range ns.length) List.nodup_range (List.mem_range.2 (by omega)) (fun j hj=>by
  have:¬(j:Int)=i:=by omega
  simp only[List.mem_append,List.mem_singleton,this,or_false])
 have e:((i.toNat:Nat):Int)=i:=by omega
 rw[e] at this;simp only[List.mem_append,List.mem_singleton,or_true,if_true,if_neg hm,Nat.add_zero] at this;rw[List.length_append,List.length_cons];simp only[List.mem_append,List.mem_singleton]
 omega
theorem H0 {ns:List Nd} (hk:∀ i k,k∈B8 ns i->0<=k/\k<ns.length):∀ (f:Nat) (todo met:List Int),Cu ns todo met<=f->met.Nodup->(∀ i∈met,0<=i/\i<ns.length)->(∀ i∈todo,0<=i/\i<ns.length)->(∀ i∈met,∀ k∈B8 ns i,k∈met\/k∈todo)→
  (EK ns f todo met).Nodup/\(∀ i∈EK ns f todo met,0<=i/\i<ns.length)/\(∀ i,i∈met\/i∈todo->i∈EK ns f todo met)/\(∀ i∈EK ns f todo met,∀ k∈B8 ns i,k∈EK ns f todo met)
 | f,[],met,hf,h1,h2,h3,h4=>by
  have:EK ns f [] met=met:=by cases f<;>rfl
  rw[this];exact⟨h1,h2,fun i hi=>hi.elim id (fun h=>by cases h),fun i hi k hk=>(h4 i hi k hk).elim id (fun h=>by cases h)⟩
 | 0,i::r,met,hf,h1,h2,h3,h4=>by
  unfold Cu at hf;rw[List.length_cons] at hf;omega
 | f+1,i::r,met,hf,h1,h2,h3,h4=>by
  unfold EK;have hi:=h3 i (List.mem_cons_self ..);split
  ·rename_i hm;have:=H0 hk f r met (by unfold Cu at hf |-;rw[List.length_cons] at hf;omega) h1 h2 (fun j hj=>h3 j (List.mem_cons_of_mem _ hj)) (fun j hj k hk=>(h4 j hj k hk).elim .inl (fun h=>(List.mem_cons.1 h).elim (fun e=>.inl (e▸hm)) .inr));exact⟨this.1,this.2.1,fun j hj=>this.2.2.1 j (hj.elim .inl (fun h=>(List.mem_cons.1 h).elim (fun e=>.inl (e▸hm)) .inr)),this.2.2.2⟩
  ·rename_i hm;have:=H0 hk f (B8 ns i++r) (met++[i]) (by have:=Nk (r:=r) hi hm;omega) (List.nodup_append.2 ⟨h1,by simp,fun a ha b hb=>by rw[List.mem_singleton] at hb;subst hb;exact fun e=>hm (e▸ha)⟩)
    (fun j hj=>(List.mem_append.1 hj).elim (h2 j) (fun h=>by rw[List.mem_singleton] at h;subst h;exact hi)) (fun j hj=>(List.mem_append.1 hj).elim (hk i j) (fun h=>h3 j (List.mem_cons_of_mem _ h)))
    (fun j hj k hkk=>by
     rcases List.mem_append.1 hj with hj | hj
     ·rcases h4 j hj k hkk with h | h
      ·exact .inl (List.mem_append_left _ h)
      ·rcases List.mem_cons.1 h with rfl | h
       ·exact .inl (List.mem_append_right _ (List.mem_singleton.2 rfl))
       ·exact .inr (List.mem_append_right _ h)
     ·rw[List.mem_singleton] at hj;subst hj;exact .inr (List.mem_append_left _ hkk))
   refine⟨this.1,this.2.1,fun j hj=>this.2.2.1 j ?_,this.2.2.2⟩;rcases hj with h | h
   ·exact .inl (List.mem_append_left _ h)
   ·rcases List.mem_cons.1 h with rfl | h
    ·exact .inl (List.mem_append_right _ (List.mem_singleton.2 rfl))
    ·exact .inr (List.mem_append_right _ h)
theorem YH {rt:Sc->Bool} {g:Gf} (h:Ji rt g):(E9 g.nodes g.root).length=g.nodes.length:=by
 have hp:=h.pos;have hk:∀ i k,k∈B8 g.nodes i->0<=k/\k<g.nodes.length:=fun i k hk=>by
  unfold B8 at hk;split at hk
  ·rename_i x hx;obtain⟨a,b,_⟩:=GM (h.ok x (List.mem_of_getElem? hx)) k (CN hk);exact⟨a,b⟩
  ·cases hk
 obtain⟨h1,h2,h3,h4⟩:=H0 hk (Cu g.nodes [g.root] []) [g.root] [] Nr List.nodup_nil (fun i hi=>by cases hi) (fun i hi=>by rw[List.mem_singleton] at hi;rw[hi,h.root];omega) (fun i hi=>by cases hi);have hall:∀ i j,Fz g.nodes i j->(i:Int)∈E9 g.nodes g.root->(j:Int)∈E9 g.nodes g.root:=by
  intro i j hr;induction hr with
  | refl i=>exact id
  | @step i j x k hx hk _ ih=>
   intro hi;obtain⟨a,b,c⟩:=GM (h.ok x (List.mem_of_getElem? hx)) k hk;have:=h4 _ hi k (by unfold B8;rw[show((i:Nat):Int).toNat=i by omega,hx];exact c);exact ih (by rw[show((k.toNat:Nat):Int)=k by omega];exact this)
 have hroot:(0:Int)∈E9 g.nodes g.root:=h3 0 (.inr (by rw[h.root];exact List.mem_singleton.2 rfl));have ge:=Gn ((List.range g.nodes.length).map fun i:Nat=>(i:Int)) (E9 g.nodes g.root) (List.pairwise_map.2 (List.nodup_range.imp fun {a b} h e=>h (by omega))) (fun x hx=>by
  obtain⟨i,hi,rfl⟩:=List.mem_map.1 hx;exact hall 0 i (h.rch i (List.mem_range.1 hi)) hroot)
 have le:=Gn (E9 g.nodes g.root) ((List.range g.nodes.length).map fun i:Nat=>(i:Int)) h1 (fun x hx=>by
  obtain⟨a,b⟩:=h2 x hx;exact List.mem_map.2 ⟨x.toNat,List.mem_range.2 (by omega),by omega⟩)
 rw[List.length_map,List.length_range] at ge le;omega
end
section
section
variable (ρ:Int->Int)
def Ia (x:En):En:=⟨ρ x.no,x.col,x.l⟩
def Ua:BR->BR
 | .ok t rest=>.ok t (rest.map (Ia ρ))
 | .bad no e=>.bad (ρ no) e
 | .out=>.out
theorem V8 (no:Int) (l:List BX) (d:Nat) (rest:List En):I2 (ρ no) l d (rest.map (Ia ρ))=Ua ρ (I2 no l d rest):=by
 unfold I2
 repeat (split;· rfl)
 rfl
theorem VP (no:Int) (s:List UInt8) (b:BR):LB (ρ no) s (Ua ρ b)=Ua ρ (LB no s b):=by
 cases b with
 | ok t rest=>unfold Ua LB;simp only;split<;>rfl
 | bad n e=>rfl
 | out=>rfl
theorem Pv (col:Int) (t:Tr) (x:En) (r:List En):Ex col t (Ia ρ x) (r.map (Ia ρ))=Ua ρ (Ex col t x r):=by
 unfold Ex Ia;simp only
 split
 ·rfl
 ·split<;>rfl
theorem Afo:∀ n,(∀ m d l,AV n m d (l.map (Ia ρ))=Ua ρ (AV n m d l))/\(∀ no m d l,belowB n (ρ no) m d (l.map (Ia ρ))=Ua ρ (belowB n no m d l))∧
  (∀ d x r,BB n d (Ia ρ x) (r.map (Ia ρ))=Ua ρ (BB n d x r))/\(∀ col d l acc,BW n col d (l.map (Ia ρ)) acc=Ua ρ (BW n col d l acc))∧
  (∀ d x r,Cb n d (Ia ρ x) (r.map (Ia ρ))=Ua ρ (Cb n d x r))/\(∀ col d l ks ts,AQ n col d (l.map (Ia ρ)) ks ts=Ua ρ (AQ n col d l ks ts))
 | 0=>by refine⟨?_,?_,?_,?_,?_,?_⟩<;>intros<;>simp only[AV,belowB,BB,BW,Cb,AQ,Ua]
 | n+1=>by
  obtain⟨hN,hB,hI,hS,hP,hD⟩:=Afo n;refine⟨fun m d l=>?_,fun no m d l=>?_,fun d x r=>?_,fun col d l acc=>?_,fun d x r=>?_,fun col d l ks ts=>?_⟩
  ·cases l with
   | nil=>simp only[List.map_nil,AV,Ua]
   | cons x r=>
    rw[List.map_cons,AV,AV];simp only[show(Ia ρ x).l=x.l from rfl,show(Ia ρ x).no=ρ x.no from rfl,show(Ia ρ x).col=x.col from rfl]
    by_cases hd:24<d
    ·rw[if_pos hd,if_pos hd];rfl
    ·rw[if_neg hd,if_neg hd];cases C9 x.l with
     | dash=>exact hS _ _ (x::r) _
     | key=>exact hD _ _ (x::r) _ _
     | name s=>simp only;rw[hB,VP]
     | plain=>exact V8 _ _ _ _ _
  ·cases l with
   | nil=>rw[List.map_nil,belowB,belowB];split<;>rfl
   | cons x r=>
    rw[List.map_cons,belowB,belowB];simp only[show(Ia ρ x).col=x.col from rfl]
    split
    ·exact hN m d (x::r)
    ·split<;>rfl
  ·rw[BB,BB];simp only[show(Ia ρ x).l=x.l from rfl,show(Ia ρ x).no=ρ x.no from rfl,show(Ia ρ x).col=x.col from rfl]
   split
   ·exact hB _ _ _ _
   ·exact hN _ d (GV x::r)
  ·cases l with
   | nil=>simp only[List.map_nil,BW,Ua]
   | cons x r=>
    rw[List.map_cons,BW,BW];simp only[show(Ia ρ x).l=x.l from rfl,show(Ia ρ x).col=x.col from rfl]
    split
    ·rw[hI];cases BB n (d+1) x r with
     | ok t rest=>exact hS _ _ _ _
     | bad no e=>rfl
     | out=>rfl
    ·exact Pv ρ _ _ _ _
  ·rw[Cb,Cb];simp only[show(Ia ρ x).l=x.l from rfl,show(Ia ρ x).no=ρ x.no from rfl,show(Ia ρ x).col=x.col from rfl]
   cases C9 (x.l.drop 2) with
   | name s=>simp only;rw[hB,VP]
   | _=>
    simp only
    split
    ·exact hB _ _ _ _
    ·exact V8 _ _ _ _ _
  ·cases l with
   | nil=>simp only[List.map_nil,AQ,Ua]
   | cons x r=>
    rw[List.map_cons,AQ,AQ];simp only[show(Ia ρ x).l=x.l from rfl,show(Ia ρ x).col=x.col from rfl,show(Ia ρ x).no=ρ x.no from rfl,show EA (Ia ρ x).l=EA x.l from rfl]
    split
    ·split
     ·rfl
     ·rw[hP];cases Cb n (d+1) x r with
      | ok t rest=>exact hD _ _ _ _ _
      | bad no e=>rfl
      | out=>rfl
    ·exact Pv ρ _ _ _ _
def reL (x:KN):KN:=⟨ρ x.no,x.ind,x.s⟩
def reO:OfR->OfR
 | .ok es=>.ok (es.map (Ia ρ))
 | .bad no e=>.bad (ρ no) e
theorem Yj:∀ l:List KN,HY (l.map (reL ρ))=reO ρ (HY l)
 | []=>rfl
 | x::r=>by
  rw[List.map_cons,HY,HY];simp only[show(reL ρ x).s=x.s from rfl,show(reL ρ x).no=ρ x.no from rfl,show(reL ρ x).ind=x.ind from rfl]
  split
  ·rfl
  ·rw[Yj r];cases HY r with
   | ok es=>rfl
   | bad no e=>rfl
end
theorem Zl {chk:Tr->Int->St->Int} {Fz:Nat} {s:List UInt8} (h:(Am chk Fz s).2.2≠0):(Am chk Fz s).1=Ib:=by
 unfold Am at h |-;split
 ·rfl
 ·rename_i ht;rw[if_neg ht] at h;exact PW h
end
section
theorem ZH (s:List UInt8):∀ x∈(Am A6 100000 s).1.nodes,Qz 25000 40000 x:=by
 unfold Am;split
 ·exact fun x hx=>by cases hx
 ·show ∀ x∈(A8 A6 (Ba 100000 s).1).1.nodes,_;unfold A8;split
  ·have hs:Sm 25000 (Ba 100000 s).1/\E5 40000 (Ba 100000 s).1:=by
    unfold Ba;split
    ·exact⟨EI _,EM _⟩
    ·exact⟨Pe fun es he=>by have:=Hp es he;omega,U6 100000 s⟩
   exact SM A6 _ 1 ⟨[],[]⟩ hs.1 hs.2 (fun x hx=>by cases hx)
  ·exact fun x hx=>by cases hx
end
section
abbrev FN (v:Value) (l:List Int):Aj:=Af 3 1 v l.length (l.map (I J))
def XV (tb:Nat) (l:List Int):Aj:=Hf fun v:Value=>star [blk tb [v] 38,FN v l]
theorem Aba (tb:Nat) (kv:Value) (is td:List Int) (w:Y) (hn:td.length+is.length<=100000000):
  B9 Tryz.prog 101 #[kv,.pointer (F ⟨tb,0,O⟩)] w (star [XV tb td,FN kv is]) (fun _:Unit=>.tuple #[]) (fun _=>star [XV tb (td++is.reverse),FN kv is]):=by
 intro Fz hX hF;refine V.enter _ Tryz.func101 (Mem.startX hX hF) ?_;refine V.star ?_;refine V.know (p:=(kv=Z O 0 0/\is.length=0)\/∃ g c,kv=Z (F ⟨g,0,O⟩) is.length c) (fun w' h'=>AL h' (List.Mem.tail _ (List.Mem.head _))) fun hkv=>?_;obtain⟨KA,kc,rfl,hKA⟩:∃ KA kc,kv=Z KA is.length kc/\(0<is.length->∃ g,KA=F ⟨g,0,O⟩):=by
  rcases hkv with ⟨e,e0⟩ | ⟨g,c,e⟩
  ·exact⟨O,0,by rw[e,e0],fun h=>by omega⟩
  ·exact⟨_,c,e,fun _=>⟨g,rfl⟩⟩
 repeat refine W ?_
 refine V.loop (ι:=Nat) (fun r=>r<=is.length) (fun r=>Mem Fz w [XV tb (td++(is.drop r).reverse),FN (Z KA is.length kc) is]) (fun r=>[(3,I J ((r:Int) - 1)),(0,Z KA is.length kc),(1,.pointer (F ⟨tb,0,O⟩))]) (fun r=>r) is.length Nr (fun w h=>by rw[List.drop_length,List.reverse_nil,List.append_nil];exact h) ⟨rfl,rfl,rfl,trivial⟩ ?_;intro r hr
 repeat refine W ?_
 refine V.ifp (fun hlt=>?_) (fun hge=>?_)
 ·obtain⟨q,rfl⟩:∃ q,r=q+1:=⟨r - 1,by omega⟩
  obtain⟨g,rfl⟩:=hKA (by omega);have hq:q<is.length:=by omega
  have hl:(td++(is.drop (q+1)).reverse).length+1<=100000000:=by rw[List.length_append,List.length_reverse,List.length_drop];omega
  have hnx:td++(is.drop q).reverse=(td++(is.drop (q+1)).reverse)++[is[q]]:=by rw[List.drop_eq_getElem_cons hq,List.reverse_cons,List.append_assoc]
  generalize td++(is.drop (q+1)).reverse=t1 at hl hnx;refine V.ux (fun v=>?_);refine V.us ?_;refine V.know (p:=∃ A c,v=Z A t1.length c) (fun w' h'=>(AL h' (List.Mem.tail _ (List.Mem.head _))).elim (fun⟨e,e0⟩=>⟨O,0,by rw[e,e0]⟩) (fun⟨g,c,e⟩=>⟨_,c,e⟩)) fun hv=>?_;obtain⟨A,c,rfl⟩:=hv;refine V.pre (S':=Mem Fz w [blk tb [Z A t1.length c] 38,FN (Z A t1.length c) t1,FN (Z (F ⟨g,0,O⟩) is.length kc) is]) ?_ (fun w h=>h);refine W ?_;refine Zz.on (Mem Fz w [blk tb [Z A t1.length c] 38,FN (Z (F ⟨g,0,O⟩) is.length kc) is]) ?_
  repeat refine Wz ?_
  refine Zz.ix hq ?_;refine Zz.lw (v:=I J is[q]) ?_ ?_
  ·rw[Nat.zero_add,Nat.mul_one,<- List.map_drop,List.drop_eq_getElem_cons hq];rfl
  repeat refine Wz ?_
  refine Zz.bs fun bn hbn=>?_;refine Zz.app elI (k:=t1.length) (m:=1) (news:=[I J is[q]]) (fun w' h'=>(Cs.of_blk (h'.blk (List.Mem.head _))).add) hl (fun a2 c2=>?_);refine Zz.off (fun w' h'=>h'.sel) ?_;refine W ?_ (by exact R.st (hp:=.inr (.inl ⟨rfl,by kernel_rfl⟩)))
  repeat refine W ?_
  refine V.again q rfl (by show q<=is.length;omega) (Nat.lt_succ_self q) (hs:=fun w' h'=>?_);rw[hnx];refine Mem.toEx (f:=fun v:Value=>star [blk tb [v] 38,FN v (t1++[is[q]])]) (Z a2 (t1.length+1) c2) (Mem.toStar (B:=[blk tb [Z a2 (t1.length+1) c2] 38,FN (Z a2 (t1.length+1) c2) (t1++[is[q]])]) ?_);have e:FN (Z a2 (t1.length+1) c2) (t1++[is[q]])=Af 3 1 (Z a2 (t1.length+1) c2) (t1.length+1) (t1.map (I J)++[I J is[q]]):=by unfold FN;rw[List.length_append,List.map_append];rfl
  rw[e];exact h'.sel
 ·have:r=0:=by omega
  subst this
  repeat refine W ?_
  refine V.end fun w' h'=>?_;exact⟨(),rfl,Mem.toW (Mem.toStar (B:=[XV tb (td++is.reverse),FN (Z KA is.length kc) is]) (A:=[]) h'.sel)⟩
end
section
theorem Aj6:Hs Tryz.prog 3 (Value.int .i64):=Hs.plain (dk:=TypeDesc.int .i64) (by kernel_rfl) rfl (fun x y=>by simp[Instr.sameNow];try rfl) (fun x=>by simp[Instr.sameBits])
section
variable {P:Program} {n:Nat} {ds:List Deferred} {d:Bool} {ops:Array Oper} {K:Act->Y->Prop} {i:Nat} {pl pend:List Nat} {S:Y->Prop} {l:Env} {t:Nat} {ty:TypeId} {ps:String} {af:Array Edge} {gd:Option (Nat×Bool)} {C:Nat->Prop} {w0 w:Y} {X Yz:Aj} {Zz:List Aj}
theorem R.se {x y:Operand} {tt:TypeId} {b o m c k sz:Nat} (hk:k<=m) (hm:m<=c) (h:Rj P n ds d ops K pl pend S ((t,Z (F ⟨b,o,O⟩) k c)::l)) (hu:P.underlying tt=F (.slice (P.elem tt)):=by kernel_rfl) (hs:∀ w,(sizeOf (P.elem tt)).run P w=.ok sz w:=by intro w;kernel_rfl) (ho:Aw ops.toList i=F ⟨F t,.slice tt x O (F y) O,ty,ps,af,gd⟩:=by rfl)
  (hx:ev l x=F (Z (F ⟨b,o,O⟩) m c):=by rfl) (hy:ev l y=F (I J k):=by rfl) (hg:Cv ops.toList l gd=F true:=by rfl):Rj P n ds d ops K (i::pl) pend S l:=
 R.takeP ho hg rfl (by
  rw[if_pos rfl];intro a w ha;have h1:=run_sliceAt_slice (P:=P) (w:=w) tt (Z (F ⟨b,o,O⟩) m c) O (F (I J k)) O hu;have h2:=run_slice_h (P:=P) (w:=w) tt (F ⟨b,o,O⟩) m c hu .i64 k (by omega) (by omega);have h3:sliced (F ⟨b,o,O⟩) 0 k c sz=Z (F ⟨b,o,O⟩) k (c - 0):=by
   unfold sliced;split
   ·rfl
   ·simp[Addr.add]
  simp[execOp,ha.ev hx,ha.ev hy,h1,h2,hs,Sem.run_bind,Sem.run,pure,Result.andThen];exact h3) h
theorem Adx {e:TypeId} {sz m b c:Nat} {xs ys:List Value} {Fz:Nat->Prop} (hy:ys.length=sz) (h:(Af e sz (Z (F ⟨b,0,O⟩) (m+1) c) (m+1) (xs++ys)).is Fz w):(Af e sz (Z (F ⟨b,0,O⟩) m c) m xs).is Fz w:=by
 obtain⟨⟨h1,h2⟩,h3⟩:=h;rcases h2 with ⟨e0,_⟩ | ⟨g,cap,cur,e0,h0,hg,hn,hc,hs,ht⟩
 ·cases e0
 ·injection e0 with e1 _ e2;injection e1 with e1;injection e1 with e1;subst e1;subst e2;rw[List.length_append,Nat.add_mul,Nat.one_mul,hy] at h1;have h1':xs.length=m*sz:=by omega
  refine⟨⟨h1',.inr ⟨b,c,cur,rfl,h0,hg,by omega,hc,hs,?_⟩⟩,fun k hk=>h3 k hk⟩;have:=congrArg (List.take (m*sz)) ht;rw[List.take_take,Nat.add_mul,Nat.one_mul,Nat.min_eq_left (by omega),<- h1',List.take_left] at this;rw[<- h1'];exact this
theorem Mem.hd1 (f:∀ Fz w,X.is Fz w->Yz.is Fz w) (h:Mem C w0 (X::Zz) w):Mem C w0 (Yz::Zz) w:=let ⟨he,Fz,h1,h2,h3⟩:=h;⟨he,Fz,f Fz w h1,h2,h3⟩
theorem Ac9 {e:TypeId} {sz m c:Nat} {A:Option Addr} {xs:List Value} (h:Mem C w0 Zz w) (hm:Af e sz (Z A m c) m xs∈Zz):m<=c:=by
 obtain⟨Fz,⟨h1,_⟩,_⟩:=h.has hm;rcases h1.2 with ⟨e0,h0⟩ | ⟨g,cap,cur,e0,_,_,hn,_⟩
 ·omega
 ·injection e0 with _ _ e2;omega
end
structure WkP (ns:List Nd):Prop where
 len:ns.length<=200
 nd:∀ x∈ns,x.kids.length<=40000/\x.keys.length<=40000/\x.keys.Nodup/\JF x.keys.length
 rng:∀ i k,k∈B8 ns i->0<=k/\k<ns.length
theorem K7 {ns:List Nd}:∀ (f:Nat) (t m:List Int),∃ r,EK ns f t m=m++r
 | 0,t,m=>⟨[],by unfold EK;rw[List.append_nil]⟩
 | f+1,[],m=>⟨[],by unfold EK;rw[List.append_nil]⟩
 | f+1,i::r,m=>by
  unfold EK;split
  ·exact K7 f r m
  ·obtain⟨q,hq⟩:=K7 (ns:=ns) f (B8 ns i++r) (m++[i]);exact⟨i::q,by rw[hq];simp⟩
theorem KD {ns:List Nd}:∀ (f:Nat) (t m:List Int),(EK ns f t m).length<=m.length+f
 | 0,t,m=>by unfold EK;omega
 | f+1,[],m=>by unfold EK;omega
 | f+1,i::r,m=>by
  unfold EK;split
  ·have:=KD (ns:=ns) f r m;omega
  ·have:=KD (ns:=ns) f (B8 ns i++r) (m++[i]);rw[List.length_append,List.length_singleton] at this;omega
theorem Pr {ns:List Nd} (h:WkP ns) (i:Int):(B8 ns i).length<=40000:=by
 unfold B8;split
 ·rename_i x hx;exact(N2 x).2 (h.nd x (List.mem_of_getElem? hx)).1
 ·exact Nat.zero_le _
theorem Abh {f:Nat->Nat} {M:Nat} (h:∀ i,f i<=M):∀ l:List Nat,(l.map f).sum<=M*l.length
 | []=>Nat.zero_le _
 | a::l=>by
  have:=Abh h l;have:=h a;rw[List.map_cons,List.sum_cons,List.length_cons,Nat.mul_add,Nat.mul_one];omega
theorem Ae9 {ns:List Nd} (h:WkP ns) (r:Int):Cu ns [r] []<=10000000:=by
 unfold Cu;have h1:=Abh (f:=fun j:Nat=>if (j:Int)∈([]:List Int) then 0 else (B8 ns j).length) (M:=40000) (fun i=>by split;exact Nat.zero_le _;exact Pr h _) (List.range ns.length);have h2:=h.len;rw[List.length_range] at h1;rw[List.length_singleton];have h3:=Nat.mul_le_mul_left 40000 h2;omega
theorem Rb {ns:List Nd} {i:Int} {r m:List Int}:Cu ns (i::r) m=Cu ns r m+1:=by unfold Cu;rw[List.length_cons];omega
theorem UU {ns:List Nd} (t m:List Int):t.length<=Cu ns t m:=by unfold Cu;omega
theorem P4 {m:List Int} {i:Int}:(A3 i (Bp m [])).isSome=decide (i∈m):=by
 rw[Bool.eq_iff_iff,C1,G4,decide_eq_true_eq];simp[GB]
abbrev VG (wb:Nat) (A:Option Addr) (c mb:Nat) (g:Gf):Aj:=blk wb [I J g.root,Z A g.nodes.length c,.map (F mb)] 128
abbrev UJ (mb:Nat) (m:List Int):Aj:=K9 (Value.int .i64) mb (AS (I J) (Bp m []))
theorem Adv (cb wb mb:Nat) (g:Gf) (A:Option Addr) (c:Nat) (hP:WkP g.nodes) (hr:0<=g.root/\g.root<g.nodes.length):
  FH Tryz.prog 100 #[.pointer (F ⟨cb,0,O⟩)] (fun i:Int=>[I J i]) (fun _=>[]) (fun s=>[blk cb [.pointer (F ⟨wb,0,O⟩)] 89,VG wb A c mb g,UJ mb s])
   (fun pre i=>pre++[i]=(E9 g.nodes g.root).take (pre.length+1)/\pre.length<(E9 g.nodes g.root).length) (fun xs=>xs=E9 g.nodes g.root) (fun w G=>CL w (fun b=>¬G b) A g.nodes):=by
 refine FH.of fun l Jz Jx w G hSt hG hY hM=>?_;refine V.enter _ Tryz.func100 hM ?_
 repeat refine W ?_
 refine R.bo (m:=1) (sz:=1) (cs:=[I J g.root]) (bt:=3) rfl (by omega) fun b0 h0=>?_;refine R.new fun tb ht=>?_
 repeat refine W ?_
 obtain⟨WN,hWN⟩:∃ q,E9 g.nodes g.root=q:=⟨_,rfl⟩
 have hT:=Ae9 hP g.root;have hW0:EK g.nodes (Cu g.nodes [g.root] []) [g.root] []=WN:=hWN;have hWl:WN.length<=10000000:=by
  have:=KD (ns:=g.nodes) (Cu g.nodes [g.root] []) [g.root] [];rw[hW0,List.length_nil] at this;omega
 rw[hWN] at hY |-;refine V.loop (ι:=Nat×List Int×List Int) (fun p=>EK g.nodes p.1 p.2.1.reverse p.2.2=WN/\Cu g.nodes p.2.1.reverse p.2.2<=p.1/\p.1<=10000000/\∀ i∈p.2.1,0<=i/\i<g.nodes.length)
  (fun p=>Mem G w [XV tb p.2.1,blk cb [.pointer (F ⟨wb,0,O⟩)] 89,VG wb A c mb g,UJ mb p.2.2,Jz p.2.2])
  (fun p=>[(0,.func (.yield l) #[] #[]),(1,.pointer (F ⟨cb,0,O⟩)),(3,.pointer (F ⟨tb,0,O⟩)),(4,.func (.func 101) #[] #[.pointer (F ⟨tb,0,O⟩)])]) (fun p=>p.1) (Cu g.nodes [g.root] [],[g.root],[])
  ⟨hW0,Nat.le_refl _,hT,fun i hi=>by rw[List.mem_singleton.1 hi];exact hr⟩ (fun w' h'=>?_) ⟨rfl,rfl,rfl,rfl,trivial⟩ ?_
 ·exact Mem.toEx (f:=fun v:Value=>star [blk tb [v] 38,FN v [g.root]]) (Z (F ⟨b0,0,O⟩) 1 1) (Mem.toStar (B:=[blk tb [Z (F ⟨b0,0,O⟩) 1 1] 38,FN (Z (F ⟨b0,0,O⟩) 1 1) [g.root]]) h'.sel)
 intro p hp;obtain⟨f,S,m⟩:=p;obtain⟨h1,h2,h3,h4⟩:=hp;dsimp only at h1 h2 h3 h4 |-;have hSl:S.length<=10000000:=by have:=UU (ns:=g.nodes) S.reverse m;rw[List.length_reverse] at this;omega
 refine V.ux (fun v=>?_);refine V.us ?_;refine V.know (p:=∃ A' c',v=Z A' S.length c'/\S.length<=c'/\(0<S.length->∃ g,A'=F ⟨g,0,O⟩)) (fun w' h'=>?_) fun hv=>?_
 ·rcases AL h' (List.Mem.tail _ (List.Mem.head _)) with ⟨e,e0⟩ | ⟨g,c,e⟩
  ·exact⟨O,0,by rw[e,e0],by omega,fun h=>by omega⟩
  ·subst e;exact⟨_,c,rfl,Ac9 h' (List.Mem.tail _ (List.Mem.head _)),fun _=>⟨g,rfl⟩⟩
 obtain⟨A',c',rfl,hcap,hA'⟩:=hv;refine V.pre (S':=Mem G w [blk tb [Z A' S.length c'] 38,FN (Z A' S.length c') S,blk cb [.pointer (F ⟨wb,0,O⟩)] 89,VG wb A c mb g,UJ mb m,Jz m]) ?_ (fun w h=>h)
 repeat refine W ?_
 refine V.ifp (fun hlt=>?_) (fun hge=>?_)
 ·have hne:S≠[]:=fun e=>by rw[e] at hlt;exact absurd hlt (by simp)
  obtain⟨T,i,rfl⟩:∃ T i,S=T++[i]:=⟨S.dropLast,S.getLast hne,(List.dropLast_concat_getLast hne).symm⟩
  have hi:=h4 i (by simp);obtain⟨ki,rfl⟩:∃ k:Nat,i=(k:Int):=⟨i.toNat,by omega⟩
  obtain⟨g0,rfl⟩:=hA' (by simp);rw[List.reverse_append,List.reverse_singleton,List.singleton_append] at h1 h2;obtain⟨f',rfl⟩:∃ f',f=f'+1:=⟨f - 1,by rw[Rb] at h2;omega⟩
  unfold EK at h1;have hT4:∀ j∈T,0<=j/\j<g.nodes.length:=fun j hj=>h4 j (by simp[hj]);have hlen:(T++[(ki:Int)]).length=T.length+1:=by simp
  have e1:FN (Z (F ⟨g0,0,O⟩) (T++[(ki:Int)]).length c') (T++[(ki:Int)])=Af 3 1 (Z (F ⟨g0,0,O⟩) (T.length+1) c') (T.length+1) (T.map (I J)++[I J ki]):=by unfold FN;rw[hlen,List.map_append];rfl
  rw[e1];rw[hlen] at hcap hSl |-;have hcut:∀ w',Mem G w [blk tb [Z (F ⟨g0,0,O⟩) T.length c'] 38,Af 3 1 (Z (F ⟨g0,0,O⟩) (T.length+1) c') (T.length+1) (T.map (I J)++[I J ki]),blk cb [.pointer (F ⟨wb,0,O⟩)] 89,VG wb A c mb g,UJ mb m,Jz m] w'->Mem G w [XV tb T,blk cb [.pointer (F ⟨wb,0,O⟩)] 89,VG wb A c mb g,UJ mb m,Jz m] w':=fun w' h'=>by
   have h2:=Mem.hd1 (Yz:=FN (Z (F ⟨g0,0,O⟩) T.length c') T) (fun Fz w h=>Adx rfl h) (h'.pk (.tl .hd));exact Mem.toEx (f:=fun v:Value=>star [blk tb [v] 38,FN v T]) (Z (F ⟨g0,0,O⟩) T.length c') (Mem.toStar (B:=[blk tb [Z (F ⟨g0,0,O⟩) T.length c'] 38,FN (Z (F ⟨g0,0,O⟩) T.length c') T]) h2.sel)
  repeat refine W ?_
  refine R.re 23 (v:=I J (((T.length+1:Nat):Int) - 1)) (v':=I J (T.length:Int)) (by congr 1;omega) ?_;refine R.ix (k:=T.length) (show T.length<T.length+1 by omega) ?_;refine R.lw (v:=I J ki) ?_ ?_
  ·rw[Nat.zero_add,Nat.mul_one,List.drop_left' (by simp)];rfl
  repeat refine W ?_
  refine R.re 29 (v:=I J (((T.length+1:Nat):Int) - 1)) (v':=I J (T.length:Int)) (by congr 1;omega) ?_;refine R.se (k:=T.length) (sz:=1) (by omega) hcap ?_
  repeat refine W ?_
  refine R.look (e:=3) (ki:Int) Aj6 ?_;refine R.re 37 (v:=XZ true (I J 0) (A3 (ki:Int) (AS (Value.int .i64) (Bp m [])))) (v':=.tuple #[I J ((A3 (ki:Int) (Bp m [])).getD 0),.bool (decide ((ki:Int)∈m))]) (by rw[Lx,D1,<- P4];cases A3 (ki:Int) (Bp m [])<;>rfl) ?_
  repeat refine W ?_
  refine V.ifp (p:=(ki:Int)∈m) (fun hn=>?_) (fun hn=>?_)
  ·refine V.pre ?_ (fun w' h'=>hcut w' h'.sel);rw[if_pos hn] at h1
   repeat refine W ?_
   exact V.again (f',T,m) rfl ⟨h1,by rw[Rb] at h2;show Cu g.nodes T.reverse m<=f';omega,by show f'<=_;omega,hT4⟩ (Nat.lt_succ_self _)
  ·refine V.pre ?_ (fun w' h'=>hcut w' h'.sel);rw[if_neg hn] at h1;have ha:BD (Bp m []) (ki:Int)=mput (ki:Int) ((Bp m []).length:Int) (Bp m []):=by unfold BD;rw[if_neg (by rw[P4];simpa using hn)]
   have hst:=Nk (r:=T.reverse) hi hn;obtain⟨x,hx⟩:∃ x,g.nodes[ki]? =F x:=⟨_,List.getElem?_eq_getElem (by omega)⟩
   have hka:B8 g.nodes (ki:Int)=AB x:=by unfold B8;rw[show((ki:Nat):Int).toNat=ki by omega,hx]
   rw[hka] at h1 hst;have hxn:=hP.nd x (List.mem_of_getElem? hx);have hml:(Bp m []).length<=100000000:=by
    have:=FQ m [];have:=K7 (ns:=g.nodes) f' (AB x++T.reverse) (m++[(ki:Int)]);rw[h1] at this;obtain⟨q,hq⟩:=this;rw[hq] at hWl;simp only[List.length_append,List.length_nil] at*;omega
   obtain⟨q,hq⟩:=K7 (ns:=g.nodes) f' (AB x++T.reverse) (m++[(ki:Int)]);rw[h1] at hq
   repeat refine W ?_
   refine R.lenm (m:=AS (Value.int .i64) (Bp m [])) (k:=3) (e:=3) ?_ (hn:=by unfold AS;rw[List.length_map];omega);refine R.re 50 (v:=I J (AS (Value.int .i64) (Bp m [])).length) (v':=I J ((Bp m []).length:Int)) (by unfold AS;rw[List.length_map]) ?_;refine R.mput (e:=3) (ki:Int) Aj6 ?_ (hp:=.inr (.inl ⟨rfl,by kernel_rfl⟩));rw[GP,<- ha,<- NM]
   repeat refine W ?_
   refine R.y (hY m (ki:Int) ⟨by rw[hq,List.take_left' (by simp)],by rw[hq];simp⟩) ?_ ?_
   ·repeat refine W ?_
    refine R.cf (fun w' h'=>L7 (fun b=>¬G b) g A c ki x w' ⟨hSt.to (fun b o v hb hv=>⟨h'.1.cell hv hb,hb⟩),hx,⟨by omega,by omega⟩,hxn.2.2.1,hxn.2.2.2⟩) (fun v=>?_)
    repeat refine W ?_
    refine R.iff (S':=Mem G w (star [XV tb T,FN v (AB x)]::[blk cb [.pointer (F ⟨wb,0,O⟩)] 89,VG wb A c mb g,UJ mb (m++[(ki:Int)]),Jz (m++[(ki:Int)])])) (fun w'=>⟨fun h'=>Mem.toStar (B:=[XV tb T,FN v (AB x)]) h'.sel,fun h'=>(Mem.star h').sel⟩) ?_;refine R.cw (X:=star [XV tb T,FN v (AB x)]) (X':=fun _:Unit=>star [XV tb (T++(AB x).reverse),FN v (AB x)]) (v:=fun _=>.tuple #[]) (fun w' h'=>Aba tb v (AB x) T w' (by have:=UU (ns:=g.nodes) (AB x++T.reverse) (m++[(ki:Int)]);rw[List.length_append,List.length_reverse] at this;omega)) (fun _=>?_)
    repeat refine W ?_
    exact V.again (f',T++(AB x).reverse,m++[(ki:Int)]) rfl ⟨by rw[List.reverse_append,List.reverse_reverse];exact h1,by show Cu g.nodes (T++(AB x).reverse).reverse (m++[(ki:Int)])<=f';rw[List.reverse_append,List.reverse_reverse];omega,by show f'<=_;omega,fun j hj=>(List.mem_append.1 hj).elim (hT4 j) (fun hj=>hP.rng (ki:Int) j (by rw[hka];exact List.mem_reverse.1 hj))⟩ (Nat.lt_succ_self _) (hs:=fun w' h'=>(Mem.star h').sel)
   ·repeat refine W ?_
    refine V.end fun w' h'=>?_;exact⟨⟨_,rfl⟩,.inr ⟨_,h'.sel⟩⟩
 ·have hS:S=[]:=List.eq_nil_of_length_eq_zero (by omega);subst hS;have hm:m=WN:=by rw[<- h1];cases f<;>rfl
  subst hm
  repeat refine W ?_
  refine V.end fun w' h'=>?_;exact⟨⟨_,rfl⟩,.inl ⟨_,rfl,h'.sel⟩⟩
end
section
theorem TW (wb:Nat) (w:Y):Calls Tryz.prog 66 #[.pointer (F ⟨wb,0,O⟩)] w fun e w'=>∃ b:Nat,e=.returned (.func (.func 100) #[] #[.pointer (F ⟨b,0,O⟩)])/\Fr w w' [blk b [.pointer (F ⟨wb,0,O⟩)] 89]:=by
 refine V.enter _ Tryz.func66 (Mem.start (C:=Ao) w) ?_
 repeat refine W ?_
 refine R.new fun b hb=>?_
 repeat refine W ?_
 refine V.end fun w' h'=>?_;exact⟨b,rfl,h'.to_fr⟩
theorem Ac7 (g:Gf) (A:Option Addr) (c:Nat) (w:Y):Calls Tryz.prog 45 #[Eh A c g] w fun e w'=>∃ q:Nat×Nat,e=.returned (.pointer (F ⟨q.1,0,O⟩))/\Fr w w' [star [VG q.1 A c q.2 g,UJ q.2 []]]:=by
 unfold Eh;refine V.enter _ Tryz.func45 (Mem.start (C:=Ao) w) ?_;refine W ?_;refine R.new fun b1 h1=>?_
 repeat refine W ?_
 refine R.mkm (κ:=Int) (Value.int .i64) fun mb hm=>?_
 repeat refine W ?_
 refine R.new fun b2 h2=>?_
 repeat refine W ?_
 refine V.end fun w' h'=>?_;exact⟨(b2,mb),rfl,Mem.to_fr (Mem.toStar (B:=[VG b2 A c mb g,UJ mb []]) (A:=[]) h'.sel)⟩
theorem YF (wb mb:Nat) (g:Gf) (A:Option Addr) (c:Nat) (wB w:Y) (hB:Below wB.heap.size wB w) (hN:CL wB (fun b=>b<wB.heap.size) A g.nodes) (hP:WkP g.nodes) (hr:0<=g.root/\g.root<g.nodes.length):
  BT Tryz.prog 46 #[.pointer (F ⟨wb,0,O⟩)] w (star [VG wb A c mb g,UJ mb []]) (fun Fz=>∀ b,Fz b->wB.heap.size<=b) (fun v:Value=>v) (fun v=>star [VG wb A c mb g,UJ mb (E9 g.nodes g.root),FN v (E9 g.nodes g.root)]):=by
 intro Fz hX hF hQ;refine V.enter _ Tryz.func46 (Mem.startX hX hF) ?_;refine V.star ?_
 repeat refine W ?_
 refine R.new fun b3 h3=>?_
 repeat refine W ?_
 refine R.cf (fun w' h'=>TW wb w') (fun cb=>?_)
 repeat refine W ?_
 have hWl:(E9 g.nodes g.root).length<=10000000:=by
  have:=KD (ns:=g.nodes) (Cu g.nodes [g.root] []) [g.root] [];have h2:=Ae9 hP g.root;unfold E9;rw[List.length_nil] at this;omega
 refine V.range (Adv cb wb mb g A c hP hr) (fun s=>[XV b3 s]) (fun co s=>[pr False]) (fun w' h'=>?_) (fun w1 w2 G h hb hG=>?_) (fun r pre i Wb C' T T' Rl hadm hx hC hm=>?_) (fun D xs hf=>?_) (fun D co s=>?_)
 ·have h1:Mem Fz w ([blk b3 [Z O 0 0] 38,FN (Z O 0 0) []]++[blk cb [.pointer (F ⟨wb,0,O⟩)] 89,VG wb A c mb g,UJ mb []]) w':=(h'.ownNil 3 1).sel;have h2:=Mem.toEx (f:=fun v:Value=>star [blk b3 [v] 38,FN v []]) (Z O 0 0) (Mem.toStar h1);exact h2.sel
 ·have hx:AI Fz wB w2:=((AI.of_below (C:=Fz) hB).trans h.1 (fun _ _ e=>e)).trans (C':=Ao) (AI.of_below hb) (fun _ _ e=>e.elim);exact hN.to fun b o v hb hv=>⟨hx.cell hv (fun e=>by have:=hQ b e;omega),fun hg=>(hG b hg).elim (fun h=>by have:=hB.size;omega) (fun e=>by have:=hQ b e;omega)⟩
 ·have hl:pre.length+1<=100000000:=by have:=hadm.2;omega
  repeat refine W ?_
  refine V.mid hm ?_;refine V.ux (fun v=>?_);refine V.us ?_;refine V.pre (S':=Mem C' Wb [blk b3 [v] 38,FN v pre,T']) ?_ (fun w h=>h)
  repeat refine W ?_
  refine R.bs fun bn hbn=>?_;refine R.app elI (k:=pre.length) (m:=1) (news:=[I J i]) (fun w' h'=>(Cs.of_blk (h'.blk (List.Mem.head _))).add) hl (fun a2 c2=>?_)
  repeat refine W ?_
  refine V.pre (S':=Mem C' Wb [XV b3 (pre++[i]),T']) ?_ (fun w' h'=>?_)
  ·exact V.rn
  ·have e:FN (Z a2 (pre.length+1) c2) (pre++[i])=Af 3 1 (Z a2 (pre.length+1) c2) (pre.length+1) (pre.map (I J)++[I J i]):=by unfold FN;rw[List.length_append,List.map_append];rfl
   refine Mem.toEx (f:=fun v:Value=>star [blk b3 [v] 38,FN v (pre++[i])]) (Z a2 (pre.length+1) c2) (Mem.toStar (B:=[blk b3 [Z a2 (pre.length+1) c2] 38,FN (Z a2 (pre.length+1) c2) (pre++[i])]) ?_);rw[e];exact h'.sel
 ·subst hf;refine V.ux (fun v=>?_);refine V.us ?_;refine V.pre (S':=Mem Fz w [blk b3 [v] 38,FN v (E9 g.nodes g.root),VG wb A c mb g,UJ mb (E9 g.nodes g.root),Ob D (.deferred (F []))]) ?_ (fun w h=>h.sel)
  repeat refine W ?_
  refine V.end fun w' h'=>?_;exact⟨v,rfl,Mem.toW (Mem.toStar (B:=[VG wb A c mb g,UJ mb (E9 g.nodes g.root),FN v (E9 g.nodes g.root)]) (A:=[]) h'.sel)⟩
 ·repeat refine W ?_
  refine V.prop (p:=False) fun h=>h.elim
theorem Abm (g:Gf) (A:Option Addr) (c:Nat) (w:Y) (hN:CL w (fun b=>b<w.heap.size) A g.nodes) (hP:WkP g.nodes) (hr:0<=g.root/\g.root<g.nodes.length) (hC:∀ w',Below w.heap.size w w'->Calls Tryz.prog 20 #[Eh A c g] w' fun e w2=>e=.returned (.tuple #[I J 0,I J 0])/\Below w'.heap.size w' w2):
  Calls Tryz.prog 21 #[Eh A c g] w fun e w'=>∃ v,e=.returned (.tuple #[v,I J 0])/\Fr w w' [FN v (E9 g.nodes g.root)]:=by
 have hC':=hC;unfold Eh at hC' |-;refine V.enter _ Tryz.func21 (Mem.start (C:=Ao) w) ?_;refine W ?_;refine R.new fun b1 h1=>?_
 repeat refine W ?_
 refine R.c (fun w' h'=>hC' w' h'.1.below) ?_
 repeat refine W ?_
 refine R.cf (fun w' h'=>Ac7 g A c w') (fun q=>?_);refine R.cq (fun w' h'=>YF q.1 q.2 g A c w w' h'.1.below hN hP hr) (fun Fz hF b hb=>(hF b hb).elim id (fun e=>e.elim)) (fun v=>?_)
 repeat refine W ?_
 refine V.end fun w' h'=>?_;exact⟨v,rfl,Mem.to_fr ((Mem.star (A:=[]) (B:=[VG q.1 A c q.2 g,UJ q.2 (E9 g.nodes g.root),FN v (E9 g.nodes g.root)]) h'.sel).sel)⟩
end
section
theorem Abn (s:ByteArray) (w:Y):Calls Tryz.prog 19 #[Q s] w fun e w'=>e=.returned (Q (s.extract 0 (min s.size 8001)))/\Below w.heap.size w w':=by
 obtain⟨m,hm⟩:∃ m,min s.size 8001=m:=⟨_,rfl⟩
 rw[hm];refine V.enter _ Tryz.func19 (Mem.start (C:=Ao) w) ?_
 repeat refine W ?_
 refine R.cut (s:=s) m (m:=min (s.size:Int) 8001) (by omega) (by omega) ?_
 repeat refine W ?_
 refine V.end fun w' h'=>?_;exact⟨rfl,h'.1.below⟩
theorem Ac8 {s:List UInt8} (h:(Am A6 100000 s).2.2=0):WkP (Am A6 100000 s).1.nodes:=by
 have hr:=CG h;have hq:=ZH s;refine⟨hr.len,fun x hx=>⟨by have:=(hq x hx).kids;omega,by have:=(hq x hx).keys;omega,J9 (hr.ok x hx),LE YD _ (by have:=(hq x hx).keys;omega)⟩,fun i k hk=>?_⟩;unfold B8 at hk;split at hk
 ·rename_i x hx;obtain⟨a,b,_⟩:=GM (hr.ok x (List.mem_of_getElem? hx)) k (CN hk);exact⟨a,b⟩
 ·cases hk
def Sd (x:Int):Int:=(x.natAbs:Int)
theorem Aex {x:Int} (h:0<=x):Sd x=x:=by unfold Sd;omega
theorem Ml {x:Int} (h:x=Sd x):0<=x:=by unfold Sd at h;omega
theorem Ab4 (Fz:Nat) (l:List KN) (h:∀ x∈l,0<=x.no):0<=(C0 Fz l).2.1:=by
 have hl:l.map (reL Sd)=l:=by
  conv=>rhs;rw[<- List.map_id l]
  refine List.map_congr_left fun x hx=>?_;show(⟨Sd x.no,x.ind,x.s⟩:KN)=x;rw[Aex (h x hx)]
 have ho:=Yj Sd l;rw[hl] at ho;unfold C0 VH;split
 ·rename_i es he;split at he
  ·rw[he] at ho;injection ho with ho;unfold H4;split
   ·exact Int.le_refl 0
   ·have hn:=(Afo Sd Fz).1 (-1) 1 es;rw[<- ho] at hn;cases hb:AV Fz (-1) 1 es with
    | ok t rest=>
     rw[hb] at hn;injection hn with _ hn;cases rest with
     | nil=>exact Int.le_refl 0
     | cons x r=>
      injection hn with hn _;exact Ml (congrArg En.no hn)
    | bad no e=>
     rw[hb] at hn;injection hn with hn _;exact Ml hn
    | out=>exact Int.le_refl 0
  ·cases he
 ·rename_i no e he;split at he
  ·rw[he] at ho;injection ho with ho _;exact Ml ho
  ·injection he with h1 _;rw[<- h1];exact Int.le_refl 0
theorem UA:∀ (rs:List (Nat×List UInt8)) (acc:List Sc),(∀ a∈acc,0<=a.kind)->(∀ y∈(BN rs acc).1,0<=y.kind)/\0<=(BN rs acc).2.1
 | [],acc,h=>⟨h,Int.le_refl 0⟩
 | (k,r)::rs,acc,h=>by
  unfold BN;split
  ·exact⟨fun y hy=>(by cases hy),Int.natCast_nonneg k⟩
  ·refine UA rs _ fun a ha=>?_;split at ha
   ·rcases List.mem_append.1 ha with ha | ha
    ·exact h a ha
    ·rw[List.mem_singleton.1 ha];exact Int.natCast_nonneg k
   ·exact h a ha
theorem Za (s:List UInt8):(∀ y∈(Al s).1,0<=y.kind)/\0<=(Al s).2.1:=by
 unfold Al;split
 ·exact⟨fun y hy=>(by cases hy),Int.le_refl 0⟩
 ·split
  ·exact UA _ _ fun a ha=>by cases ha
  ·exact⟨fun y hy=>(by cases hy),Int.le_refl 0⟩
theorem Acp (s:List UInt8):0<=(Am A6 100000 s).2.1/\((Am A6 100000 s).2.2=0->(Am A6 100000 s).2.1=0):=by
 obtain⟨h1,h2⟩:=Za s;unfold Am;split
 ·rename_i he;refine⟨?_,fun e=>absurd e he⟩;show 0<=(Ba 100000 s).2.1;unfold Ba;split
  ·exact h2
  ·refine Ab4 _ _ fun x hx=>?_;obtain⟨y,hy,rfl⟩:=List.mem_map.1 hx;exact h1 y hy
 ·exact⟨Int.le_refl 0,fun _=>rfl⟩
theorem Ab7 {s:List UInt8} (h:(Am A6 100000 s).2.2=0):GrQ (Am A6 100000 s).1:=by
 have hr:=CG h;have hq:=ZH s;have h3:=hr.len;exact⟨UQ hr,⟨by omega,fun x hx=>by have:=(hq x hx).keys;have:=(hq x hx).kids;omega⟩,fun x hx=>by
  have:=(hq x hx).str;exact⟨by omega,fun y hy=>by have:=this.2 y hy;omega⟩,(JK hr).root,h3,fun x hx=>⟨by have:=(hq x hx).kids;omega,Ly hr x hx⟩⟩
theorem Abu (s:ByteArray) (w:Y) (hW:FI w):Calls Tryz.prog 10 #[Q s] w fun e w'=>e=.returned (.bool true)/\Below w.heap.size w w':=by
 obtain⟨S,hS⟩:∃ S,s.extract 0 (min s.size 8001)=S:=⟨_,rfl⟩
 have hL:=fun w' (h:FI w')=>Et S w' h;obtain⟨hno,hn0⟩:=Acp S.data.toList;have hbad:=Zl (chk:=A6) (Fz:=100000) (s:=S.data.toList);have hgq:=Ab7 (s:=S.data.toList);have hwk:=Ac8 (s:=S.data.toList);have hrg:=CG (s:=S.data.toList);generalize Am A6 100000 S.data.toList=L at hL hno hn0 hbad hgq hwk hrg;obtain⟨LG,no,er⟩:=L;dsimp only at hL hno hn0 hbad hgq hwk hrg;refine V.enter _ Tryz.func10 (Mem.start (C:=Ao) w) ?_
 repeat refine W ?_
 refine R.c (fun w' h'=>JP w' (hW.to h'.1.below)) ?_
 repeat refine W ?_
 refine R.c (fun w' h'=>Abn s w') ?_;rw[hS]
 repeat refine W ?_
 refine R.cf (fun w' h'=>hL w' (hW.to h'.1.below)) (fun q=>?_)
 repeat (first | refine W ?_ | refine R.new fun _ _=>?_)
 by_cases he:er=0
 ·subst he;have hg:=hgq rfl;have hk:=hwk rfl;have hr:=hrg rfl;have hn:=hn0 rfl;subst hn;have hlw:=YH hr;have hroot:=hr.root;have hck:∀ w',FI w'->CL w' (fun b=>b<w'.heap.size) q.1 LG.nodes->Calls Tryz.prog 20 #[Eh q.1 q.2 LG] w' fun e w2=>e=.returned (.tuple #[I J 0,I J 0])/\Below w'.heap.size w' w2:=fun w' hW' hn=>by
   have hp:=hg.to hW' hn (fun b h=>h);have:=JW _ Ap LG q.1 q.2 w' hn hp.sm hp.right (K6 _ _) hW'.errC;rw[hp.chk] at this;exact this
  have hds:∀ w',Mem Ao w [Nq (Eh q.1 q.2 LG) LG] w'->CL w' (fun b=>b<w'.heap.size) q.1 LG.nodes:=fun w' h'=>by
   obtain⟨Fz,⟨A,c,ea,hn⟩,hF⟩:=h'.has (X:=Nq (Eh q.1 q.2 LG) LG) (by simp);obtain⟨rfl,rfl⟩:=KH ea;exact hn.to fun b o v hb hv=>⟨hv,(hF b hb).1⟩
  repeat refine W ?_
  refine R.c (fun w' h'=>hck w' (hW.to h'.1.below) (hds w' h'.sel)) ?_
  repeat refine W ?_
  refine R.cf (fun w' h'=>Abm LG q.1 q.2 w' (hds w' h'.sel) hk (by rw[hroot];exact⟨Int.le_refl 0,by have:=hr.pos;omega⟩) (fun w2 hb=>hck w2 ((hW.to h'.1.below).to hb) ((hds w' h'.sel).to fun b o v hb2 hv=>⟨cell_below hv hb,Nat.lt_of_lt_of_le hb2 hb.size⟩))) (fun v=>?_)
  repeat refine W ?_
  refine R.know (p:=∃ A' c',v=Z A' (E9 LG.nodes LG.root).length c') (fun w' h'=>(AL h' (List.Mem.head _)).elim (fun⟨e,e0⟩=>⟨O,0,by rw[e,e0]⟩) (fun⟨g,c,e⟩=>⟨_,c,e⟩)) fun hv=>?_;obtain⟨A',c',rfl⟩:=hv;rw[hlw];refine R.re 61 (v:=.bool (LG.root==0)) (v':=.bool true) (by rw[hroot];rfl) ?_
  repeat refine W ?_
  refine V.end fun w' h'=>?_;exact⟨rfl,h'.1.below⟩
 ·have:=hbad he;subst this;refine V.re 21 (v:=.bool (er !=0)) (v':=.bool true) (by simp[he]) ?_
  repeat refine W ?_
  refine V.re 2 (v:=.bool (((Ib.nodes.length:Int)==0)&&decide (0<=no))) (v':=.bool true) (by simp[hno,Ib]) ?_
  repeat refine W ?_
  refine V.end fun w' h'=>?_;exact⟨rfl,h'.1.below⟩
end
end Go.Proofs.YtdpppepmkeinaaaGreatDoor
