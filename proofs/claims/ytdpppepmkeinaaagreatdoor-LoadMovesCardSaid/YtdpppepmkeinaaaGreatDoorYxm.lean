/- What is proved: a part of the walk of the program and of its plain laws; no condition beside those that each theorem names. -/
import Derived.Test.YtdpppepmkeinaaaGreatDoorYp
import Derived.Test.YtdpppepmkeinaaaGreatDoorYxi
import Derived.Test.YtdpppepmkeinaaaGreatDoorYxj
import Derived.Test.YtdpppepmkeinaaaGreatDoorYxl
import Derived.Test.YtdpppepmkeinaaaGreatDoorYl
import Derived.Test.YtdpppepmkeinaaaGreatDoorYa
import Derived.Test.YtdpppepmkeinaaaGreatDoorYm
import Derived.Sort.LotA
import Derived.Shelf.SlSortCmp.Insertion
import Derived.Shelf.SlSortCmp.KitK
import Derived.Shelf.SlGeneric
import Derived.Sort.WalkB2
import Derived.Sort.WalkB12
import Derived.Deep.LoopGhost
import Derived.Deep.CutRange
import Derived.Handy
import Derived.Deep.RegionHeld3
import Derived.Shelf.SlLaysF0
import Derived.Stop.RegionWithIn
namespace Go.Proofs.YtdpppepmkeinaaaGreatDoor
open Go Go.RowKit Go.Lib
open Go.Value renaming int->I,string->Q,slice->Z
open Go.IntKind renaming i64->J
open Option renaming none->O,some->F
open _root_.Go renaming World->Y
set_option linter.unusedSimpArgs false
set_option linter.unusedVariables false
set_option linter.unusedSectionVars false
section
section
variable (ρ:Int->Int)
end
def A3 (Fz:Nat) (s:List UInt8):Tr×Int×Int:=if (Ao s).2.2≠0 then (Ei,(Ao s).2.1,(Ao s).2.2) else AZ Fz ((Ao s).1.map BM)
def Aq (chk:Tr->Int->St->Int) (Fz:Nat) (s:List UInt8):Gf×Int×Int:=if (A3 Fz s).2.2≠0 then (G8,(A3 Fz s).2.1,(A3 Fz s).2.2) else ((Al chk (A3 Fz s).1).1,0,(Al chk (A3 Fz s).1).2)
theorem CE:∀ s:List UInt8,(10∈s->s=rowOf s++10::AS s)/\(10∉s->rowOf s=s/\AS s=[])
 | []=>⟨fun h=>(by cases h),fun _=>⟨rfl,rfl⟩⟩
 | b::l=>by
  obtain⟨h1,h2⟩:=CE l;by_cases hb:b=10
  ·subst hb;exact⟨fun _=>by simp[rowOf,AS],fun h=>absurd (List.mem_cons_self ..) h⟩
  ·have hb2:(b !=10)=true:=by simpa using hb
   have e1:rowOf (b::l)=b::rowOf l:=by unfold rowOf;rw[List.takeWhile_cons,if_pos hb2]
   have e2:AS (b::l)=AS l:=by unfold AS;rw[List.dropWhile_cons,if_pos hb2]
   rw[e1,e2];refine⟨fun h=>?_,fun h=>?_⟩
   ·rw[List.cons_append,<- h1 ((List.mem_cons.1 h).resolve_left (fun e=>hb e.symm))]
   ·obtain⟨h3,h4⟩:=h2 (fun e=>h (List.mem_cons_of_mem _ e));exact⟨by rw[h3],h4⟩
theorem Xu {a:List UInt8} (h:10∉a) (r:List UInt8):rowOf (a++10::r)=a/\AS (a++10::r)=r:=by
 induction a with
 | nil=>exact⟨by simp[rowOf],by simp[AS]⟩
 | cons b l ih=>
  obtain⟨h1,h2⟩:=ih (fun e=>h (List.mem_cons_of_mem _ e));have hb2:(b !=10)=true:=by simpa using fun e:b=10=>h (e▸List.mem_cons_self ..)
  have e1:rowOf (b::(l++10::r))=b::rowOf (l++10::r):=by unfold rowOf;rw[List.takeWhile_cons,if_pos hb2]
  have e2:AS (b::(l++10::r))=AS (l++10::r):=by unfold AS;rw[List.dropWhile_cons,if_pos hb2]
  rw[List.cons_append,e1,e2,h1,h2];exact⟨rfl,rfl⟩
theorem DM {a:List UInt8} (h:10∉a) (r:List UInt8):Be (a++10::r)=a::Be r:=by
 rw[DU (by simp),(Xu h r).1,(Xu h r).2]
theorem FW {a:List UInt8} (h:10∉a) (hne:a≠[]):Be a=[a]:=by
 obtain⟨h1,h2⟩:=(CE a).2 h;rw[DU hne,h1,h2,CO]
theorem Ba (k:Nat) (r:List UInt8) (rs:List (List UInt8)):BG k (r::rs)=(k,r)::BG (k+1) rs:=rfl
theorem Bc (k:Nat) (r:List UInt8) (rs:List (Nat×List UInt8)) (acc:List Sc):BB ((k,r)::rs) acc=if Ax r≠0 then ([],(k:Int),Ax r) else BB rs (if AO r then acc++[AN k r] else acc):=rfl
theorem MX {Fz:Nat} {l:List IM} (h:(AZ Fz l).2.2≠0):(AZ Fz l).1=Ei:=by
 unfold AZ at h |-;split
 ·rename_i es he;rw[he] at h;dsimp only at h;unfold CK at h |-;split
  ·rfl
  ·rename_i hne;rw[if_neg hne] at h;cases hb:AF Fz (-1) 1 es with
   | ok t rest=>
    rw[hb] at h;cases rest with
    | nil=>exact absurd rfl h
    | cons x r=>rfl
   | bad no e=>rfl
   | out=>rfl
 ·rfl
def szR (rs:List (List UInt8)):Nat:=(rs.map fun r=>r.length+1).sum
def szL (l:List Sc):Nat:=(l.map fun x=>x.str.size+1).sum
theorem Ue (k:Nat) (r:List UInt8):(AN k r).str.size<=r.length/\0<=(AN k r).num/\(AN k r).num<=r.length:=by
 have h1:=Po r;have h2:=TL (AK r);refine⟨?_,?_,?_⟩
 ·show(Dt (AK r)).toArray.size<=_;rw[List.size_toArray];omega
 ·show 0<=(r.length:Int) - (AK r).length;omega
 ·show(r.length:Int) - (AK r).length<=_;omega
theorem Xq:∀ (rs:List (List UInt8)) (k:Nat) (acc:List Sc),szL (BB (BG k rs) acc).1<=szL acc+szR rs
 | [],k,acc=>Nat.le_refl _
 | r::rs,k,acc=>by
  rw[Ba,Bc];have hr:szR (r::rs)=(r.length+1)+szR rs:=by simp[szR]
  split
  ·exact Nat.zero_le _
  ·have:=Xq rs (k+1) (if AO r then acc++[AN k r] else acc);have h2:szL (if AO r=true then acc++[AN k r] else acc)<=szL acc+(r.length+1):=by
    split
    ·have:=(Ue k r).1;simp only[szL,List.map_append,List.sum_append,List.map_singleton,List.sum_singleton]
     omega
    ·omega
   omega
theorem Xd (M:Nat):∀ (rs:List (List UInt8)) (k:Nat) (acc:List Sc),(∀ r∈rs,r.length<=M)->(∀ x∈acc,x.str.size<=M/\0<=x.num/\x.num<=M)->∀ x∈(BB (BG k rs) acc).1,x.str.size<=M/\0<=x.num/\x.num<=M
 | [],k,acc,_,h=>h
 | r::rs,k,acc,hr,h=>by
  rw[Ba,Bc];split
  ·exact fun x hx=>by cases hx
  ·refine Xd M rs (k+1) _ (fun y hy=>hr y (List.mem_cons_of_mem _ hy)) ?_;split
   ·intro x hx;rcases List.mem_append.1 hx with hx | hx
    ·exact h x hx
    ·rw[List.mem_singleton] at hx;subst hx;have h1:=Ue k r;have h2:=hr r (List.mem_cons_self ..);omega
   ·exact h
theorem Xx:∀ (n:Nat) (s:List UInt8),s.length<=n->szR (Be s)<=s.length+1/\∀ r∈Be s,r.length<=s.length
 | n,[],_=>⟨by simp[CO,szR],fun r hr=>by rw[CO] at hr;cases hr⟩
 | 0,c::s,h=>by simp at h
 | n+1,c::s,h=>by
  obtain⟨u,hu⟩:∃ u,c::s=u:=⟨_,rfl⟩
  have hune:u≠[]:=by rw[<- hu];simp
  rw[hu] at h |-;have hlt:=D9 hune;obtain⟨i1,i2⟩:=Xx n (AS u) (by omega);obtain⟨h1,h2⟩:=CE u;have hrl:=Ry u;rw[DU hune];refine⟨?_,fun r hr=>?_⟩
  ·have e:szR (rowOf u::Be (AS u))=((rowOf u).length+1)+szR (Be (AS u)):=by simp[szR]
   rw[e];by_cases h10:10∈u
   ·have:=congrArg List.length (h1 h10);rw[List.length_append,List.length_cons] at this;omega
   ·obtain⟨h3,h4⟩:=h2 h10;rw[h4,CO,h3];show _+0<=_;omega
  ·rcases List.mem_cons.1 hr with rfl | hr
   ·exact hrl
   ·have:=i2 r hr;omega
theorem Kt (s:List UInt8):szL (Ao s).1<=s.length+1/\∀ x∈(Ao s).1,x.str.size<=s.length/\0<=x.num/\x.num<=s.length:=by
 obtain⟨h1,h2⟩:=Xx _ s Nr;unfold Ao;split
 ·exact⟨Nat.zero_le _,fun x hx=>by cases hx⟩
 ·split
  ·refine⟨?_,Xd _ _ _ _ h2 (fun x hx=>by cases hx)⟩;have:=Xq (Be s) 1 [];have e:szL []=0:=rfl;omega
  ·exact⟨Nat.zero_le _,fun x hx=>by cases hx⟩
theorem J3 {s:List UInt8} (h:8000<s.length):Ao s=([],0,20):=by unfold Ao;rw[if_pos h]
theorem KX {s:List UInt8}:∀ x∈(Ao s).1,0<=x.num/\x.num<=8000/\x.str.size<=8000:=fun x hx=>by
 by_cases h:8000<s.length
 ·rw[J3 h] at hx;cases hx
 ·have:=(Kt s).2 x hx;omega
theorem FX {s:List UInt8}:∀ es,DW ((Ao s).1.map BM)=.ok es->4*E4 es+2<=100000:=fun es he=>by
 by_cases h:8000<s.length
 ·rw[J3 h] at he;rw[List.map_nil,DW] at he;injection he with he;subst he;decide
 ·have h1:=(Kt s).1;have h2:=(M0 he (fun x hx=>by
   obtain⟨y,hy,rfl⟩:=List.mem_map.1 hx;have:=KX y hy;have e:(BM y).s.length=y.str.size:=by show y.str.data.toList.length=_;rw[Array.length_toList];rfl
   rw[e];show _/\0<=y.num/\y.num<=8000;omega)).2
  have h3:(((Ao s).1.map BM).map fun x=>x.s.length+1).sum=szL (Ao s).1:=by
   rw[List.map_map];unfold szL;congr 1
  omega
end
section
def Fo (M:Nat):Tr->Prop
 | .mk _ nm x ks ts=>nm.size<=M/\x.str.size<=M/\(∀ y∈ks,y.str.size<=M)/\SzTs ts
where SzTs:List Tr->Prop
 | []=>True
 | t::r=>Fo M t/\SzTs r
theorem QL {M:Nat}:∀ {ts:List Tr},Fo.SzTs M ts↔∀ t∈ts,Fo M t
 | []=>by unfold Fo.SzTs;simp
 | t::r=>by unfold Fo.SzTs;rw[QL,List.forall_mem_cons]
theorem NW {M:Nat} {t:Tr} (h:Fo M t) {s:List UInt8} (hs:s.length<=M):Fo M (t.named s):=by
 cases t
 unfold Tr.named;unfold Fo at h |-;exact⟨hs,h.2⟩
theorem G7 (M:Nat):Fo M Ei:=by unfold Ei Fo Fo.SzTs;exact⟨Nat.zero_le _,Nat.zero_le _,(fun y hy=>by cases hy),trivial⟩
theorem UG {M:Nat} {ts:List Tr} (h:∀ t∈ts,Fo M t):Fo M (Bt ts):=by unfold Bt Fo;exact⟨Nat.zero_le _,Nat.zero_le _,(fun y hy=>by cases hy),QL.2 h⟩
theorem UZ {M:Nat} {ks:List Sc} {ts:List Tr} (hk:∀ y∈ks,y.str.size<=M) (h:∀ t∈ts,Fo M t):Fo M (BT ks ts):=by unfold BT Fo;exact⟨Nat.zero_le _,Nat.zero_le _,hk,QL.2 h⟩
theorem QK {M:Nat} {t:Pc} (h:t.str.length<=M):(B3 t).1.str.size<=M:=by
 unfold B3;split
 ·split
  ·exact Nat.le_trans (Oy _) h
  ·exact Nat.zero_le _
 ·split
  ·split
   ·exact h
   ·exact Nat.zero_le _
  ·exact Nat.zero_le _
mutual
theorem SY {M:Nat}:∀ {p:List Pc} {v:Tr},PV p v->(∀ t∈p,t.str.length<=M)->Fo M v
 | _,_,.key t h,hp=>by unfold BX Fo Fo.SzTs;exact⟨Nat.zero_le _,QK (hp t (by simp)),(fun y hy=>by cases hy),trivial⟩
 | _,_,.ali t h,hp=>by unfold Fd Fo Fo.SzTs;exact⟨hp t (by simp),Nat.zero_le _,(fun y hy=>by cases hy),trivial⟩
 | _,_,.nam t p v h h2 h3 hv,hp=>NW (SY hv fun u hu=>hp u (by simp[hu])) (hp t (by simp))
 | _,_,.lst t p ts h hv,hp=>UG (Agy hv fun u hu=>hp u (by simp[hu]))
 | _,_,.dic t p ks ts h hv,hp=>UZ (Ac6 hv fun u hu=>hp u (by simp[hu])).1 (Ac6 hv fun u hu=>hp u (by simp[hu])).2
termination_by p _ _ _=>p.length
decreasing_by all_goals (simp;try omega)
theorem Agy {M:Nat}:∀ {p:List Pc} {ts:List Tr},PI p ts->(∀ t∈p,t.str.length<=M)->∀ t∈ts,Fo M t
 | _,_,.nil c h,hp=>fun t ht=>by cases ht
 | _,_,.last p v c hv h,hp=>fun t ht=>by rw[List.mem_singleton.1 ht];exact SY hv fun u hu=>hp u (by simp[hu])
 | _,_,.cons p v m q ts hv h hq,hp=>fun t ht=>by
  rcases List.mem_cons.1 ht with rfl | ht
  ·exact SY hv fun u hu=>hp u (by simp[hu])
  ·exact Agy hq (fun u hu=>hp u (by simp[hu])) t ht
termination_by p _ _ _=>p.length
decreasing_by all_goals (simp;try omega)
theorem Ac6 {M:Nat}:∀ {p:List Pc} {ks:List Sc} {ts:List Tr},PD p ks ts->(∀ t∈p,t.str.length<=M)->(∀ y∈ks,y.str.size<=M)/\∀ t∈ts,Fo M t
 | _,_,_,.nil c h,hp=>⟨(fun y hy=>by cases hy),fun y hy=>by cases hy⟩
 | _,_,_,.last p x v c hv h,hp=>by
  obtain⟨h1,h2⟩:=Ag9 hv fun u hu=>hp u (by simp[hu]);exact⟨fun y hy=>by rw[List.mem_singleton.1 hy];exact h1,fun y hy=>by rw[List.mem_singleton.1 hy];exact h2⟩
 | _,_,_,.cons p x v m q ks ts hv h hq,hp=>by
  obtain⟨h1,h2⟩:=Ag9 hv fun u hu=>hp u (by simp[hu]);obtain⟨h3,h4⟩:=Ac6 hq fun u hu=>hp u (by simp[hu]);exact⟨fun y hy=>(List.mem_cons.1 hy).elim (fun e=>by rw[e];exact h1) (h3 y),fun y hy=>(List.mem_cons.1 hy).elim (fun e=>by rw[e];exact h2) (h4 y)⟩
termination_by p _ _ _ _=>p.length
decreasing_by all_goals (simp;try omega)
theorem Ag9 {M:Nat}:∀ {p:List Pc} {x:Sc} {v:Tr},PP p x v->(∀ t∈p,t.str.length<=M)->x.str.size<=M/\Fo M v
 | _,_,_,.none k c h hc,hp=>⟨QK (hp k (by simp)),G7 M⟩
 | _,_,_,.some k c p v h hc hv,hp=>⟨QK (hp k (by simp)),SY hv fun u hu=>hp u (by simp[hu])⟩
termination_by p _ _ _ _=>p.length
decreasing_by all_goals (simp;try omega)
end
def SzE (M:Nat) (x:En):Prop:=∀ t∈x.l,t.str.length<=M
theorem WS {M:Nat} {no:Int} {l:List C8} {d:Nat} {r rest:List En} {t:Tr} (h:C9 no l d r=.ok t rest) (hm:∀ t∈l,t.str.length<=M):Fo M t:=by
 obtain⟨_,_,h3,h4⟩:=IN h;refine SY (NE (l:=IT l) (t:=t) (Prod.ext h3.symm h4)).1 fun u hu=>?_;obtain⟨y,hy,rfl⟩:=List.mem_map.1 hu;exact hm y hy
theorem WQ {M:Nat} {l:List C8} (h:∀ t∈l,t.str.length<=M) (i:Nat):(l.getD i WK).str.length<=M:=by
 rw[List.getD];cases hi:l[i]? with
 | none=>exact Nat.zero_le _
 | some t=>exact h t (List.mem_of_getElem? hi)
theorem WT {M:Nat} {l:List C8} {s:List UInt8} (h:∀ t∈l,t.str.length<=M) (hb:Ck l=.name s):s.length<=M:=by
 unfold Ck at hb;split at hb
 ·cases hb
 ·split at hb
  ·cases hb
  ·split at hb
   ·cases hb;exact WQ h 0
   ·cases hb
theorem szB (M:Nat):∀ n,(∀ m d l t rest,AF n m d l=.ok t rest->(∀ x∈l,SzE M x)->Fo M t)/\(∀ no m d l t rest,belowB n no m d l=.ok t rest->(∀ x∈l,SzE M x)->Fo M t)∧
  (∀ d x r t rest,B2 n d x r=.ok t rest->(∀ y∈x::r,SzE M y)->Fo M t)/\(∀ col d l acc t rest,BK n col d l acc=.ok t rest->(∀ x∈l,SzE M x)->(∀ a∈acc,Fo M a)->Fo M t)∧
  (∀ d x r t rest,B8 n d x r=.ok t rest->(∀ y∈x::r,SzE M y)->Fo M t)/\(∀ col d l ks ts t rest,AL n col d l ks ts=.ok t rest->(∀ x∈l,SzE M x)->(∀ y∈ks,y.str.size<=M)->(∀ a∈ts,Fo M a)->Fo M t)
 | 0=>by refine⟨?_,?_,?_,?_,?_,?_⟩<;>intros<;>rename_i h _<;>simp[AF,belowB,B2,BK,B8,AL] at*
 | n+1=>by
  obtain⟨hN,hB,hI,hS,hP,hD⟩:=szB M n;obtain⟨_,_,sI,_,_,sP,_,_⟩:=suffix n;refine⟨fun m d l t rest h hm=>?_,fun no m d l t rest h hm=>?_,fun d x r t rest h hm=>?_,fun col d l acc t rest h hm ha=>?_,fun d x r t rest h hm=>?_,fun col d l ks ts t rest h hm hk ha=>?_⟩
  ·cases l with
   | nil=>simp[AF] at h
   | cons x r=>
    rw[AF] at h;split at h
    ·cases h
    ·split at h
     ·exact hS _ _ _ _ _ _ h hm (fun a h=>by cases h)
     ·exact hD _ _ _ _ _ _ _ h hm (fun a h=>by cases h) (fun a h=>by cases h)
     ·rename_i hb;obtain⟨t',h1,h2,_⟩:=IQ h;rw[h2];exact NW (hB _ _ _ _ _ _ h1 fun y hy=>hm y (by simp[hy])) (WT (hm x (by simp)) hb)
     ·exact WS h (hm x (by simp))
  ·cases l with
   | nil=>
    rw[belowB] at h;split at h
    ·cases h
    ·injection h with h _;rw[<- h];exact G7 M
   | cons x r=>
    rw[belowB] at h;split at h
    ·exact hN _ _ _ _ _ h hm
    ·split at h
     ·cases h
     ·injection h with h _;rw[<- h];exact G7 M
  ·rw[B2] at h;split at h
   ·exact hB _ _ _ _ _ _ h fun y hy=>hm y (by simp[hy])
   ·refine hN _ _ _ _ _ h fun y hy=>?_;rcases List.mem_cons.1 hy with rfl | hy
    ·exact fun t ht=>hm x (by simp) t (List.mem_of_mem_tail ht)
    ·exact hm y (by simp[hy])
  ·cases l with
   | nil=>rw[BK] at h;injection h with h _;rw[<- h];exact UG ha
   | cons x r=>
    rw[BK] at h;split at h
    ·cases hi:B2 n (d+1) x r with
     | ok t1 rest1=>
      rw[hi] at h;have h1:=hI _ _ _ _ _ hi hm;refine hS _ _ _ _ _ _ h (fun y hy=>hm y (by simp[(sI _ _ _ _ _ hi).subset hy])) (fun a h=>?_);rcases List.mem_append.1 h with h | h
      ·exact ha a h
      ·rw[List.mem_singleton.1 h];exact h1
     | bad no e=>rw[hi] at h;cases h
     | out=>rw[hi] at h;cases h
    ·obtain⟨h1,_,_⟩:=GV h;rw[h1];exact UG ha
  ·rw[B8] at h;split at h
   ·rename_i hb;obtain⟨t',h1,h2,_⟩:=IQ h;rw[h2];exact NW (hB _ _ _ _ _ _ h1 fun y hy=>hm y (by simp[hy])) (WT (fun t ht=>hm x (by simp) t (List.mem_of_mem_drop ht)) hb)
   ·split at h
    ·exact hB _ _ _ _ _ _ h fun y hy=>hm y (by simp[hy])
    ·exact WS h fun t ht=>hm x (by simp) t (List.mem_of_mem_drop ht)
  ·cases l with
   | nil=>rw[AL] at h;injection h with h _;rw[<- h];exact UZ hk ha
   | cons x r=>
    rw[AL] at h;split at h
    ·split at h
     ·cases h
     ·cases hi:B8 n (d+1) x r with
      | ok t1 rest1=>
       rw[hi] at h;have h1:=hP _ _ _ _ _ hi hm;refine hD _ _ _ _ _ _ _ h (fun y hy=>hm y (by simp[(sP _ _ _ _ _ hi).subset hy])) (fun y hy=>?_) (fun a h=>?_)
       ·rcases List.mem_append.1 hy with hy | hy
        ·exact hk y hy
        ·rw[List.mem_singleton.1 hy];unfold EA;exact QK (WQ (hm x (by simp)) 0)
       ·rcases List.mem_append.1 h with h | h
        ·exact ha a h
        ·rw[List.mem_singleton.1 h];exact h1
      | bad no e=>rw[hi] at h;cases h
      | out=>rw[hi] at h;cases h
    ·obtain⟨h1,_,_⟩:=GV h;rw[h1];exact UZ hk ha
theorem Aei {Fz M:Nat} {l:List IM} (hF:∀ es,DW l=.ok es->∀ x∈es,SzE M x):Fo M (AZ Fz l).1:=by
 unfold AZ LF;split
 ·rename_i es he;split at he
  ·unfold CK;split
   ·exact G7 M
   ·cases hn:AF Fz (-1) 1 es with
    | ok t rest=>
     cases rest with
     | nil=>exact(szB M Fz).1 _ _ _ _ _ hn (hF es he)
     | cons x r=>exact G7 M
    | bad no e=>exact G7 M
    | out=>exact G7 M
  ·cases he
 ·exact G7 M
theorem Aba {M:Nat}:∀ (l:List IM) (es:List En),DW l=.ok es->(∀ x∈l,4*(x.s.length+1)<=M)->∀ x∈es,SzE M x
 | [],es,h,_=>by rw[DW] at h;injection h with h;subst h;exact fun x hx=>by cases hx
 | y::r,es,h,hm=>by
  rw[DW] at h;split at h
  ·cases h
  ·cases hr:DW r with
   | bad no e=>rw[hr] at h;cases h
   | ok es'=>
    rw[hr] at h;injection h with h;subst h;intro x hx;rcases List.mem_cons.1 hx with rfl | hx
    ·intro t ht;obtain⟨u,hu,rfl⟩:=List.mem_map.1 (show t∈(BP y.s).1.map LX from ht);exact Nat.le_trans ((He y.s).2 u hu).2 (hm y (by simp))
    ·exact Aba r es' hr (fun z hz=>hm z (by simp[hz])) x hx
theorem Qu (Fz:Nat) (s:List UInt8):Fo 40000 (AZ Fz ((Ao s).1.map BM)).1:=by
 refine Aei fun es he=>Aba _ es he fun x hx=>?_;obtain⟨y,hy,rfl⟩:=List.mem_map.1 hx;have:=KX y hy;have e:(BM y).s.length=y.str.size:=by show y.str.data.toList.length=_;rw[Array.length_toList];rfl
 rw[e];omega
end
section
open Go Go.RowKit Go.Lib Go.Sort
variable {α:Type} [Inhabited α]
def All [DecidableEq α] (l:List α):Bool:= !decide l.Nodup
end
section
open Go.Sort
variable {α:Type} [Inhabited α]
variable {lt:α->α->Bool}
end
section
open Go Go.Shelf Go.RowKit Go.Lib Go.Sort
variable {P:Program} {k:Nat} {α:Type} [Inhabited α]
variable {P:Program} {k:Nat} {α:Type} [Inhabited α]
end
section
open Go Go.Shelf Go.RowKit Go.Lib Go.Sort
variable {P:Program} {k:Nat} {α:Type} [Inhabited α]
end
section
set_option maxRecDepth 100000
set_option maxHeartbeats 2000000
open Go Go.Shelf Go.RowKit Go.Lib Go.Sort
variable {P:Program} {k:Nat} {α:Type} [Inhabited α]
open Go Go.RowKit Go.Lib Go.Sort
theorem EN (a:Int) (w:Y):Calls Tryz.prog 246 #[I J a] w fun e w'=>e=.returned (.bool false)/\w'=w:=by
 go_enter Tryz.func246,Tryz.ntmps246;go_wp2;go_ret;exact⟨by simp,rfl⟩
theorem ED (a:ByteArray) (w:Y):Calls Tryz.prog 247 #[Q a] w fun e w'=>e=.returned (.bool false)/\w'=w:=by
 go_enter Tryz.func247,Tryz.ntmps247;go_wp2;go_ret;exact⟨by simp,rfl⟩
theorem Aax (a b:Int) (w:Y):Calls Tryz.prog 219 #[I J a,I J b] w fun e w'=>e=.returned (I J (Lf a b))/\w'=w:=by
 unfold Lf;rcases Int.lt_trichotomy a b with h | h | h
 ·rw[if_pos h];go_enter Tryz.func219,Tryz.ntmps219;go_wp2_with fail;refine(EN _ _).mono ?_;rintro e w1 ⟨rfl,rfl⟩;go_wp2_with fail;refine(EN _ _).mono ?_;rintro e w1 ⟨rfl,rfl⟩;go_wp2;go_ret;exact⟨rfl,rfl⟩
 ·subst h;have h1:¬a<a:=by omega
  rw[if_neg h1,if_neg h1];go_enter Tryz.func219,Tryz.ntmps219;go_wp2_with fail;refine(EN _ _).mono ?_;rintro e w1 ⟨rfl,rfl⟩;go_wp2_with fail;refine(EN _ _).mono ?_;rintro e w1 ⟨rfl,rfl⟩;go_wp2;go_ret;exact⟨rfl,rfl⟩
 ·have h1:¬a<b:=by omega
  rw[if_neg h1,if_pos h];go_enter Tryz.func219,Tryz.ntmps219;go_wp2_with fail;refine(EN _ _).mono ?_;rintro e w1 ⟨rfl,rfl⟩;go_wp2_with fail;refine(EN _ _).mono ?_;rintro e w1 ⟨rfl,rfl⟩;go_wp2;go_ret;exact⟨rfl,rfl⟩
theorem Adg (s t:ByteArray) (w:Y):Calls Tryz.prog 220 #[Q s,Q t] w fun e w'=>e=.returned (I J (cmpL s.data.toList t.data.toList))/\w'=w:=by
 have hl1:=UH s.data.toList t.data.toList;have hl2:=UH t.data.toList s.data.toList;have hsym:=Qw.sym s.data.toList t.data.toList;have hr:=Qw.rng s.data.toList t.data.toList;have heq:=Qw.eq s.data.toList t.data.toList;obtain⟨z,hz⟩:∃ z,cmpL s.data.toList t.data.toList=z:=⟨_,rfl⟩
 rw[hz] at hl1 hsym hr heq |-;rw[hsym] at hl2;clear hsym hz;rw[<- Lib.toList_data s,<- Lib.toList_data t] at hl1 hl2 heq;rcases hr with rfl | rfl | rfl
 ·have e1:Op.bytesLess s.toList t.toList=true:=hl1;have e2:Op.bytesLess t.toList s.toList=false:=hl2;have e3:(s.toList==t.toList)=false:=by rw[beq_eq_false_iff_ne];intro h;exact absurd (heq.2 h) (by decide)
  have e4:(t.toList==s.toList)=false:=by rw[beq_eq_false_iff_ne];intro h;exact absurd (heq.2 h.symm) (by decide)
  clear hl1 hl2 heq;go_enter Tryz.func220,Tryz.ntmps220;go_wp2_with fail;refine(ED _ _).mono ?_;rintro e w1 ⟨rfl,rfl⟩;go_wp2_with fail;refine(ED _ _).mono ?_;rintro e w1 ⟨rfl,rfl⟩;go_wp2;go_ret;exact⟨rfl,rfl⟩
 ·have e1:Op.bytesLess s.toList t.toList=false:=hl1;have e2:Op.bytesLess t.toList s.toList=false:=hl2;have e3:(s.toList==t.toList)=true:=by rw[beq_iff_eq];exact heq.1 rfl
  have e4:(t.toList==s.toList)=true:=by rw[beq_iff_eq];exact(heq.1 rfl).symm
  clear hl1 hl2 heq;go_enter Tryz.func220,Tryz.ntmps220;go_wp2_with fail;refine(ED _ _).mono ?_;rintro e w1 ⟨rfl,rfl⟩;go_wp2_with fail;refine(ED _ _).mono ?_;rintro e w1 ⟨rfl,rfl⟩;go_wp2;go_ret;exact⟨rfl,rfl⟩
 ·have e1:Op.bytesLess s.toList t.toList=false:=hl1;have e2:Op.bytesLess t.toList s.toList=true:=hl2;have e3:(s.toList==t.toList)=false:=by rw[beq_eq_false_iff_ne];intro h;exact absurd (heq.2 h) (by decide)
  have e4:(t.toList==s.toList)=false:=by rw[beq_eq_false_iff_ne];intro h;exact absurd (heq.2 h.symm) (by decide)
  clear hl1 hl2 heq;go_enter Tryz.func220,Tryz.ntmps220;go_wp2_with fail;refine(ED _ _).mono ?_;rintro e w1 ⟨rfl,rfl⟩;go_wp2_with fail;refine(ED _ _).mono ?_;rintro e w1 ⟨rfl,rfl⟩;go_wp2;go_ret;exact⟨rfl,rfl⟩
def orL (a b c:Int):Int:=if a=0 then (if b=0 then c else b) else a
theorem Aiu (k:Nat) (a b c:Int) (w:Y) (h0:w.cell? ⟨k,0,O⟩=F (I J a)) (h1:w.cell? ⟨k,1,O⟩=F (I J b)) (h2:w.cell? ⟨k,2,O⟩=F (I J c)):
  Calls Tryz.prog 218 #[Z (F ⟨k,0,O⟩) 3 3] w fun e w'=>e=.returned (I J (orL a b c))/\w'=w:=by
 unfold orL;by_cases ha:a=0
 ·rw[if_pos ha];subst ha;by_cases hb:b=0
  ·rw[if_pos hb];subst hb;by_cases hc:c=0
   ·subst hc;go_enter Tryz.func218,Tryz.ntmps218;go_wp2;go_rounds 4;go_ret;exact⟨rfl,rfl⟩
   ·have hcz:(c==0)=false:=by rw[beq_eq_false_iff_ne];exact hc
    go_enter Tryz.func218,Tryz.ntmps218;go_wp2;go_rounds 3;go_ret;exact⟨rfl,rfl⟩
  ·rw[if_neg hb];have hbz:(b==0)=false:=by rw[beq_eq_false_iff_ne];exact hb
   go_enter Tryz.func218,Tryz.ntmps218;go_wp2;go_rounds 2;go_ret;exact⟨rfl,rfl⟩
 ·rw[if_neg ha];have haz:(a==0)=false:=by rw[beq_eq_false_iff_ne];exact ha
  go_enter Tryz.func218,Tryz.ntmps218;go_wp2;go_rounds 1;go_ret;exact⟨rfl,rfl⟩
def Gr (w W:Y):Prop:=∃ (q:Nat) (os:Array Obj),W=Sort.grow (w.drewN q) os
theorem Gr.refl (w:Y):Gr w w:=⟨0,#[],by
 show w={w with heap:=w.heap++#[],drawn:=w.drawn+0}
 simp⟩
theorem Gr.drew {w W:Y} (h:Gr w W):Gr w W.drew:=by
 obtain⟨q,os,rfl⟩:=h;exact⟨q+1,os,rfl⟩
theorem Gr.alloc {w W:Y} (h:Gr w W) (o:Obj):Gr w (W.alloc o):=by
 obtain⟨q,os,rfl⟩:=h;refine⟨q,os++#[o],?_⟩;show({w with heap:=(w.heap++os).push o,drawn:=w.drawn+q}:Y)={w with heap:=w.heap++(os++#[o]),drawn:=w.drawn+q}
 simp
theorem Gr.below {w W:Y} (h:Gr w W):Below w.heap.size w W:=by
 obtain⟨q,os,rfl⟩:=h;exact HW w q os
theorem Lm (W:Y) (c:Array Value) (t:TypeId) (n j:Nat) (hn:W.heap.size=n):(W.alloc (.cells c t)).cell? ⟨n,j,O⟩=c[j]? :=by
 subst hn;have h:(W.alloc (.cells c t)).heap[W.heap.size]? =F (.cells c t):=Wn W _;unfold World.cell?;rw[h];rfl
theorem Afv (x y:Sc):orL (Lf x.kind y.kind) (Lf x.num y.num) (cmpL x.str.data.toList y.str.data.toList)=DG x y:=rfl
theorem T3 (x y:Sc) (w:Y):
  Calls Tryz.prog 183 #[Ev x,Ev y] w fun e w'=>e=.returned (I J (DG x y))/\Gr w w':=by
 have he:=Ag2 x y;have hor:=Afv x y;have hz:decide (x=y)=true->DG x y=0:=fun h=>(EX.eq x y).2 (of_decide_eq_true h);obtain⟨z,hzz⟩:∃ z,DG x y=z:=⟨_,rfl⟩
 rw[hzz] at hor hz |-;obtain⟨b,hb⟩:∃ b,decide (x=y)=b:=⟨_,rfl⟩
 rw[hb] at he hz;obtain⟨k1,n1,s1⟩:=x;obtain⟨k2,n2,s2⟩:=y;have hE:=fun wx=>Aaz k1 n1 k2 n2 s1 s2 wx;simp only at he hor;rw[he] at hE;have HOR:=hid hor;have HZ:=hid hz;unfold Ev;clear hzz hb he hz hor;cases b with
 | true=>
  go_enter Tryz.func183,Tryz.ntmps183;go_wp2;go_ret;refine⟨by rw[HZ.out trivial];rfl,?_⟩
  repeat (first | exact Gr.refl _ | refine Gr.alloc ?_ _ | refine Gr.drew ?_)
 | false=>
  go_enter Tryz.func183,Tryz.ntmps183;go_wp2;go_region_held3 (fun w'=>w'.cell? ⟨w.heap.size,0,O⟩=F (I J k1)/\w'.cell? ⟨w.heap.size,1,O⟩=F (I J n1)/\w'.cell? ⟨w.heap.size,2,O⟩=F (Q s1)/\w'.cell? ⟨w.heap.size+1,0,O⟩=F (I J k2)/\w'.cell? ⟨w.heap.size+1,1,O⟩=F (I J n2)/\w'.cell? ⟨w.heap.size+1,2,O⟩=F (Q s2)) (first | go_keep)
   (first
    | (go_at_call 219;refine(Aax _ _ _).mono ?_;rintro e wz ⟨rfl,hw⟩;subst wz)
    | (go_at_call 220;refine(Adg _ _ _).mono ?_;rintro e wz ⟨rfl,hw⟩;subst wz)
    | (go_at_call 218;refine(Aiu _ (Lf k1 k2) (Lf n1 n2) (cmpL s1.data.toList s2.data.toList) _ (Lm _ _ _ _ _ (by simp)) (Lm _ _ _ _ _ (by simp)) (Lm _ _ _ _ _ (by simp))).mono ?_;rintro e wz ⟨rfl,hw⟩;subst wz))
  go_wp2;go_ret;refine⟨by rw[HOR.out];rfl,?_⟩
  repeat (first | exact Gr.refl _ | refine Gr.alloc ?_ _ | refine Gr.drew ?_)
end
section
attribute [local go_sem] Oper.semAt_some
def Jw (W:Y) (A:Option Addr) (ts:List Sc) (n₀:Nat):Prop:=∀ k,k<ts.length->∃ b o:Nat,A=F ⟨b,o,O⟩/\b<n₀/\W.cell? ⟨b,o+k*3,O⟩=F (I J (ts.getD k AJ).kind)/\W.cell? ⟨b,o+k*3+1,O⟩=F (I J (ts.getD k AJ).num)/\W.cell? ⟨b,o+k*3+2,O⟩=F (Q (ts.getD k AJ).str)
theorem Jw.keeps {p:Obj->Bool} {C:Nat->Prop} {n₀:Nat} {X Yz:Y} {A:Option Addr} {ts:List Sc} (h:Jw X A ts n₀) (hk:Ak p C n₀ X Yz):Jw Yz A ts n₀:=fun k hlt=>by
 obtain⟨b,o,ha,hb,h0,h1,h2⟩:=h k hlt;exact⟨b,o,ha,hb,hk.cell h0 (.inl hb),hk.cell h1 (.inl hb),hk.cell h2 (.inl hb)⟩
theorem Jw.below {n₀:Nat} {X Yz:Y} {A:Option Addr} {ts:List Sc} (h:Jw X A ts n₀) (hk:Below X.heap.size X Yz):Jw Yz A ts n₀:=fun k hlt=>by
 obtain⟨b,o,ha,hb,h0,h1,h2⟩:=h k hlt;exact⟨b,o,ha,hb,cell_below h0 hk,cell_below h1 hk,cell_below h2 hk⟩
theorem Jw.turn {n₀ n:Nat} {X Yz:Y} {A:Option Addr} {ts:List Sc} (h:Jw X A ts n₀) (hk:Au (fun _=>False) n X Yz):Jw Yz A ts n₀:=fun k hlt=>by
 obtain⟨b,o,ha,hb,h0,h1,h2⟩:=h k hlt;exact⟨b,o,ha,hb,hk.cell h0 (fun f=>f),hk.cell h1 (fun f=>f),hk.cell h2 (fun f=>f)⟩
theorem Jw.of {W:Y} {v:Value} {ts:List Sc} (h:Om W v ts):∃ A cap,v=Z A ts.length cap/\Jw W A ts W.heap.size:=by
 obtain⟨A,cap,hv,hc⟩:=h;exact⟨A,cap,hv,hc⟩
def encS (x:Sc):Array Value:=#[Ev x]
end
end Go.Proofs.YtdpppepmkeinaaaGreatDoor
