import Derived.Test.YtdpppepmkeinaaaGreatDoorYk
import Derived.Test.YtdpppepmkeinaaaGreatDoorYg
import Derived.Test.YtdpppepmkeinaaaGreatDoorYl
import Derived.Test.YtdpppepmkeinaaaGreatDoorYo
import Derived.Test.YtdpppepmkeinaaaGreatDoorYu
import Derived.Test.YtdpppepmkeinaaaGreatDoorYx
import Derived.Test.YtdpppepmkeinaaaGreatDoorYxa
import Derived.Test.YtdpppepmkeinaaaGreatDoorYv
import Derived.Test.YtdpppepmkeinaaaGreatDoorYz
/- What is proved: the law returns true whatever comes in; no condition beside those that each theorem names. -/
namespace Go.Proofs.YtdpppepmkeinaaaGreatDoor
set_option maxHeartbeats 32000000
open Go Go.Lib
open Go.Value renaming int->I,string->Q,slice->Z
open Go.IntKind renaming i64->J
open Option renaming none->O,some->F
open _root_.Go renaming World->Y
set_option linter.unusedVariables false
set_option linter.unusedSimpArgs false
set_option linter.unusedSectionVars false
open Go Go.RowKit Go.Lib
open Go Go.RowKit
set_option maxRecDepth 100000
section
section num
variable {κ:Type} [DecidableEq κ]
theorem Qj {l:List κ} {i j:Nat} (hi:i<l.length) (hj:j<l.length):(FL l []).getD i 0=(FL l []).getD j 0↔l[i]=l[j]:=by
 rw[Iw];simp only[List.getD,List.getElem?_map,List.getElem?_eq_getElem hi,List.getElem?_eq_getElem hj,Option.map_some,Option.getD_some]
 exact⟨fun e=>(SE.end' KE).inj (G4.2 (.inl (List.getElem_mem hi))) (G4.2 (.inl (List.getElem_mem hj))) e,fun e=>by rw[e]⟩
theorem Agl {κ':Type} [DecidableEq κ'] {l:List κ} {l':List κ'} (hn:l.length=l'.length) (hf:∀ i j (hi:i<l.length) (hj:j<l.length),l[i]=l[j]->l'[i]'(hn▸hi)=l'[j]'(hn▸hj)) (hc:(Bp l []).length<=(Bp l' []).length)
  {i j:Nat} (hi:i<l.length) (hj:j<l.length) (e:l'[i]'(hn▸hi)=l'[j]'(hn▸hj)):l[i]=l[j]:=by
 refine Decidable.byContradiction fun hne=>?_;have hmem:∀ {s:κ},s∈GB (Bp l [])↔s∈l:=G4.trans ⟨fun h=>h.elim id (fun h=>by cases h),.inl⟩;have hmem':∀ {s:κ'},s∈GB (Bp l' [])↔s∈l':=G4.trans ⟨fun h=>h.elim id (fun h=>by cases h),.inl⟩
 let ψ:κ->κ':=fun a=>if h:∃ t,∃ ht:t<l.length,l[t]=a then l'[h.choose]'(by rw[<- hn];exact h.choose_spec.choose) else l'[j]'(hn▸hj)
 have hψ:∀ t (ht:t<l.length),ψ l[t]=l'[t]'(hn▸ht):=fun t ht=>by
  have h:∃ t',∃ ht':t'<l.length,l[t']=l[t]:=⟨t,ht,rfl⟩
  show(if h:_ then _ else _)=_;rw[dif_pos h];exact hf _ _ h.choose_spec.choose ht h.choose_spec.choose_spec
 have h1:=Gn (GB (Bp l' [])) (((GB (Bp l [])).erase l[j]).map ψ) (SE.end' KE).1 (fun b hb=>by
  obtain⟨t,ht,rfl⟩:=List.getElem_of_mem (hmem'.1 hb);have htl:t<l.length:=hn▸ht;by_cases c:l[t]=l[j]
  ·exact List.mem_map.2 ⟨l[i],(List.mem_erase_of_ne hne).2 (hmem.2 (List.getElem_mem hi)),by rw[hψ i hi,e];exact(hf t j htl hj c).symm⟩
  ·exact List.mem_map.2 ⟨l[t],(List.mem_erase_of_ne c).2 (hmem.2 (List.getElem_mem htl)),hψ t htl⟩)
 have hj':=hmem.2 (List.getElem_mem hj);rw[List.length_map,List.length_erase_of_mem hj'] at h1;have h2:=List.length_pos_of_mem hj';rw[KI,KI] at hc;omega
end num
end
section
def Ae1 (n:Int):List UInt8:=if n<0 then [45] else []
theorem Aed (n:Int):itoa n=Ae1 n++decDigits n.natAbs:=by
 unfold itoa Ae1;split
 ·rfl
 ·rw[show n.natAbs=n.toNat by omega];rfl
end
section
theorem Aaw (n:Nat):∀ c∈decDigits n,c≠44:=by
 intro c hc;rw[decDigits_eq] at hc;obtain⟨t,_,rfl⟩:=List.mem_map.1 hc;unfold dg;intro e;have:=congrArg UInt8.toNat e;simp at this;omega
theorem ND (n:Nat):∀ c∈itoa (n:Int),c≠44:=by rw[itoa_nonneg];exact Aaw n
theorem Afy:∀ {a b r s:List UInt8},(∀ c∈a,c≠44)->(∀ c∈b,c≠44)->a++44::r=b++44::s->a=b/\r=s
 | [],[],r,s,_,_,h=>⟨rfl,by simpa using h⟩
 | [],y::b,r,s,_,hb,h=>by
  simp only[List.nil_append,List.cons_append,List.cons.injEq] at h;exact absurd h.1.symm (hb y (List.mem_cons_self ..))
 | x::a,[],r,s,ha,_,h=>by
  simp only[List.nil_append,List.cons_append,List.cons.injEq] at h;exact absurd h.1 (ha x (List.mem_cons_self ..))
 | x::a,y::b,r,s,ha,hb,h=>by
  simp only[List.cons_append,List.cons.injEq] at h;obtain⟨h1,h2⟩:=Afy (fun c hc=>ha c (List.mem_cons_of_mem _ hc)) (fun c hc=>hb c (List.mem_cons_of_mem _ hc)) h.2;exact⟨by rw[h.1,h1],h2⟩
theorem Aaq {m n:Int} (hm:0<=m/\m<1000000) (hn:0<=n/\n<1000000) (h:itoa m=itoa n):m=n:=by
 have h1:=J2 m (by omega) (by omega);have h2:=J2 n (by omega) (by omega);rw[h,h2] at h1;exact(Prod.mk.inj h1).1.symm
theorem UP:∀ {l m:List Int},(∀ n∈l,0<=n/\n<1000000)->(∀ n∈m,0<=n/\n<1000000)->NQ l=NQ m->l=m
 | [],[],_,_,_=>rfl
 | [],n::m,_,_,h=>by unfold NQ at h;simp at h
 | n::l,[],_,_,h=>by unfold NQ at h;simp at h
 | a::l,b::m,hl,hm,h=>by
  have ha:=hl a (List.mem_cons_self ..);have hb:=hm b (List.mem_cons_self ..);unfold NQ at h;rw[List.flatMap_cons,List.flatMap_cons,List.append_assoc,List.append_assoc] at h;have ea:((a.toNat:Nat):Int)=a:=by omega
  have eb:((b.toNat:Nat):Int)=b:=by omega
  obtain⟨h1,h2⟩:=Afy (by rw[<- ea];exact ND _) (by rw[<- eb];exact ND _) h;rw[Aaq ha hb h1,UP (fun n hn=>hl n (List.mem_cons_of_mem _ hn)) (fun n hn=>hm n (List.mem_cons_of_mem _ hn)) h2]
inductive Uf where
 | leaf
 | node (kind:Int) (x:Sc) (keys:List UInt8) (kids:List Uf)
def C7 (tx:Sc->List UInt8) (ns:List Nd):Nat->Nat->Uf
 | 0,_=>.leaf
 | k+1,i=>match ns[i]? with
  | none=>.leaf
  | some x=>.node x.kind x.x ((BK x).flatMap fun k=>tx k++[44]) ((AB x).map fun j=>C7 tx ns k j.toNat)
section
variable {tx:Sc->List UInt8} {ns:List Nd}
theorem Ael (hn:ns.length<=1000):∀ (k i:Nat),0<=(cls tx ns k).getD i 0/\(cls tx ns k).getD i 0<1000000:=by
 intro k i;by_cases hi:i<(cls tx ns k).length
 ·have hm:(cls tx ns k).getD i 0∈cls tx ns k:=by simp[List.getD,List.getElem?_eq_getElem hi,List.getElem_mem]
  cases k with
  | zero=>simp only[cls,MW,List.mem_replicate] at hm |-;omega
  | succ k=>
   have:=P8 (show _∈FL (Bc tx ns (cls tx ns k)) [] from hm);have hl:(Bc tx ns (cls tx ns k)).length=ns.length:=by simp[Bc]
   omega
 ·rw[List.getD,List.getElem?_eq_none (by omega)];decide
theorem OL {α β γ δ:Type} {f:α->β} {g:α->γ}:∀ {l m:List α},(∀ a∈l,∀ b∈m,f a=f b↔g a=g b)->(l.map f=m.map f↔l.map g=m.map g)
 | [],[],_=>by simp
 | [],b::m,_=>by simp
 | a::l,[],_=>by simp
 | a::l,b::m,h=>by
  simp only[List.map_cons,List.cons.injEq]
  rw[h a (List.mem_cons_self ..) b (List.mem_cons_self ..),OL (δ:=δ) fun x hx y hy=>h x (List.mem_cons_of_mem _ hx) y (List.mem_cons_of_mem _ hy)]
theorem O7 (hr:VK ns) (hn:ns.length<=1000):∀ (k i j:Nat),i<ns.length->j<ns.length->((cls tx ns k).getD i 0=(cls tx ns k).getD j 0↔C7 tx ns k i=C7 tx ns k j)
 | 0,i,j,hi,hj=>by
  simp only[cls,MW,C7,List.getD,List.getElem?_replicate,hi,hj,if_true]
 | k+1,i,j,hi,hj=>by
  have hl:(Bc tx ns (cls tx ns k)).length=ns.length:=by simp[Bc]
  show(FL (Bc tx ns (cls tx ns k)) []).getD i 0=(FL (Bc tx ns (cls tx ns k)) []).getD j 0↔_;rw[Qj (by omega) (by omega)];have e:∀ t (ht:t<ns.length),(Bc tx ns (cls tx ns k))[t]'(by omega)=Uq tx (cls tx ns k) ns[t]:=fun t ht=>by simp[Bc]
  rw[e i hi,e j hj];unfold C7;rw[List.getElem?_eq_getElem hi,List.getElem?_eq_getElem hj];simp only[Uq,Prod.mk.injEq,Uf.node.injEq]
  have hin:∀ t (ht:t<ns.length),∀ a∈AB ns[t],a.toNat<ns.length:=fun t ht a ha=>by
   have:=hr _ (List.getElem_mem ht) a (CN ha);omega
  have hk:(NQ ((AB ns[i]).map fun t=>(cls tx ns k).getD t.toNat 0)=NQ ((AB ns[j]).map fun t=>(cls tx ns k).getD t.toNat 0))↔((AB ns[i]).map fun t=>C7 tx ns k t.toNat)=((AB ns[j]).map fun t=>C7 tx ns k t.toNat):=by
   rw[<- OL (δ:=Unit) (f:=fun t:Int=>(cls tx ns k).getD t.toNat 0) (fun a ha b hb=>O7 hr hn k a.toNat b.toNat (hin i hi a ha) (hin j hj b hb))];constructor
   ·refine UP ?_ ?_;all_goals
     intro n hn';obtain⟨t,_,rfl⟩:=List.mem_map.1 hn';exact Ael hn k _
   ·intro e;rw[e]
  rw[hk]
theorem Gy:∀ (k i j:Nat),i<ns.length->j<ns.length->VK ns->C7 tx ns (k+1) i=C7 tx ns (k+1) j->C7 tx ns k i=C7 tx ns k j
 | 0,i,j,_,_,_,_=>rfl
 | k+1,i,j,hi,hj,hr,h=>by
  unfold C7 at h |-;rw[List.getElem?_eq_getElem hi,List.getElem?_eq_getElem hj] at h |-;simp only[Uf.node.injEq] at h |-;obtain⟨h1,h2,h3,h4⟩:=h;refine⟨h1,h2,h3,?_⟩;have hin:∀ t (ht:t<ns.length),∀ a∈AB ns[t],a.toNat<ns.length:=fun t ht a ha=>by
   have:=hr _ (List.getElem_mem ht) a (CN ha);omega
  have key:∀ l m:List Int,(∀ a∈l,a.toNat<ns.length)->(∀ a∈m,a.toNat<ns.length)->l.map (fun t=>C7 tx ns (k+1) t.toNat)=m.map (fun t=>C7 tx ns (k+1) t.toNat)->l.map (fun t=>C7 tx ns k t.toNat)=m.map (fun t=>C7 tx ns k t.toNat):=by
   intro l;induction l with
   | nil=>intro m _ _ e;cases m with
    | nil=>rfl
    | cons b m=>simp at e
   | cons a l ih=>
    intro m ha hm e;cases m with
    | nil=>simp at e
    | cons b m=>
     simp only[List.map_cons,List.cons.injEq] at e |-;exact⟨Gy k _ _ (ha a (List.mem_cons_self ..)) (hm b (List.mem_cons_self ..)) hr e.1,ih m (fun x hx=>ha x (List.mem_cons_of_mem _ hx)) (fun x hx=>hm x (List.mem_cons_of_mem _ hx)) e.2⟩
  exact key _ _ (hin i hi) (hin j hj) h4
theorem Yq {k:Nat} (hr:VK ns) (h:∀ i j,i<ns.length->j<ns.length->C7 tx ns k i=C7 tx ns k j->C7 tx ns (k+1) i=C7 tx ns (k+1) j):
  ∀ i j,i<ns.length->j<ns.length->C7 tx ns (k+1) i=C7 tx ns (k+1) j->C7 tx ns (k+2) i=C7 tx ns (k+2) j:=by
 intro i j hi hj e;have hin:∀ t (ht:t<ns.length),∀ a∈AB ns[t],a.toNat<ns.length:=fun t ht a ha=>by
  have:=hr _ (List.getElem_mem ht) a (CN ha);omega
 have e1:∀ m t (ht:t<ns.length),C7 tx ns (m+1) t=.node ns[t].kind ns[t].x ((BK ns[t]).flatMap fun k=>tx k++[44]) ((AB ns[t]).map fun j=>C7 tx ns m j.toNat):=fun m t ht=>by
  show(match ns[t]? with | none=>_ | some x=>_)=_;rw[List.getElem?_eq_getElem ht]
 rw[e1 k i hi,e1 k j hj] at e;rw[e1 (k+1) i hi,e1 (k+1) j hj];simp only[Uf.node.injEq] at e |-;refine⟨e.1,e.2.1,e.2.2.1,?_⟩;refine(OL (δ:=Unit) (f:=fun t:Int=>C7 tx ns k t.toNat) (g:=fun t:Int=>C7 tx ns (k+1) t.toNat) fun a ha b hb=>⟨h _ _ (hin i hi a ha) (hin j hj b hb),Gy k _ _ (hin i hi a ha) (hin j hj b hb) hr⟩).1 e.2.2.2
theorem Acj {k:Nat} (hr:VK ns) (h:∀ i j,i<ns.length->j<ns.length->C7 tx ns k i=C7 tx ns k j->C7 tx ns (k+1) i=C7 tx ns (k+1) j) {i j:Nat} (hi:i<ns.length) (hj:j<ns.length) (e:C7 tx ns k i=C7 tx ns k j) (m:Nat):C7 tx ns m i=C7 tx ns m j:=by
 have up:∀ d,(∀ i j,i<ns.length->j<ns.length->C7 tx ns (k+d) i=C7 tx ns (k+d) j->C7 tx ns (k+d+1) i=C7 tx ns (k+d+1) j)/\C7 tx ns (k+d) i=C7 tx ns (k+d) j:=by
  intro d;induction d with
  | zero=>exact⟨h,e⟩
  | succ d ih=>exact⟨Yq hr ih.1,ih.1 i j hi hj ih.2⟩
 have down:∀ d n,C7 tx ns (n+d) i=C7 tx ns (n+d) j->C7 tx ns n i=C7 tx ns n j:=by
  intro d;induction d with
  | zero=>exact fun n h=>h
  | succ d ih=>exact fun n h=>ih n (Gy _ _ _ hi hj hr h)
 exact down k m (by rw[Nat.add_comm];exact(up m).2)
theorem Aab {k:Nat} (hr:VK ns) (hn:ns.length<=1000) (h:H5 tx ns (cls tx ns (k+1))<=H5 tx ns (cls tx ns k)) {i j:Nat} (hi:i<ns.length) (hj:j<ns.length):
  (cls tx ns (k+2)).getD i 0=(cls tx ns (k+2)).getD j 0↔∀ m,C7 tx ns m i=C7 tx ns m j:=by
 have hl:∀ c,(Bc tx ns c).length=ns.length:=fun c=>by simp[Bc]
 have hs:∀ k i j (hi:i<ns.length) (hj:j<ns.length),(Bc tx ns (cls tx ns k))[i]'(by rw[hl];exact hi)=(Bc tx ns (cls tx ns k))[j]'(by rw[hl];exact hj)↔C7 tx ns (k+1) i=C7 tx ns (k+1) j:=fun k i j hi hj=>by
  rw[<- O7 hr hn (k+1) i j hi hj];exact(Qj (by rw[hl];exact hi) (by rw[hl];exact hj)).symm
 have st:∀ i j,i<ns.length->j<ns.length->C7 tx ns (k+1) i=C7 tx ns (k+1) j->C7 tx ns (k+2) i=C7 tx ns (k+2) j:=fun i j hi hj e=>
  (hs (k+1) i j hi hj).1 (Agl (l:=Bc tx ns (cls tx ns (k+1))) (l':=Bc tx ns (cls tx ns k)) (by rw[hl,hl]) (fun a b ha hb e=>by
   rw[hl] at ha hb;exact(hs k a b ha hb).2 (Gy _ _ _ ha hb hr ((hs (k+1) a b ha hb).1 e))) h (by rw[hl];exact hi) (by rw[hl];exact hj) ((hs k i j hi hj).2 e))
 rw[O7 hr hn _ i j hi hj];exact⟨fun e m=>Acj (k:=k+1) hr st hi hj (Gy _ _ _ hi hj hr e) m,fun e=>e _⟩
theorem V6 (hr:VK ns) (hn:ns.length<=1000) (h0:0<ns.length):∀ (f k n:Nat),ns.length<f+n->(n=0/\k=0\/∃ k',k=k'+1/\n=H5 tx ns (cls tx ns k'))→
  ∃ k',H5 tx ns (cls tx ns (k'+1))<=H5 tx ns (cls tx ns k')/\On tx ns f n (H5 tx ns (cls tx ns k)) (cls tx ns (k+1))=cls tx ns (k'+2)
 | 0,k,n,hf,hk=>by
  have hle:∀ c,H5 tx ns c<=ns.length:=fun c=>by have:=ZZ (Bc tx ns c);simpa[Bc,H5] using this
  rcases hk with ⟨rfl,_⟩ | ⟨k',_,rfl⟩
  ·omega
  ·have:=hle (cls tx ns k');omega
 | f+1,k,n,hf,hk=>by
  unfold On;split
  ·rename_i hlt;exact V6 hr hn h0 f (k+1) _ (by omega) (.inr ⟨k,rfl,rfl⟩)
  ·rename_i hge;rcases hk with ⟨rfl,rfl⟩ | ⟨k',rfl,rfl⟩
   ·exfalso;have hm:(Bc tx ns (cls tx ns 0))[0]'(by simp[Bc];exact h0)∈GB (Bp (Bc tx ns (cls tx ns 0)) []):=G4.2 (.inl (List.getElem_mem _));have:=List.length_pos_of_mem hm;rw[<- KI] at this;exact hge this
   ·exact⟨k',by omega,rfl⟩
theorem Ym (hr:VK ns) (hn:ns.length<=1000) {i j:Nat} (hi:i<ns.length) (hj:j<ns.length):(LP tx ns).getD i 0=(LP tx ns).getD j 0↔∀ m,C7 tx ns m i=C7 tx ns m j:=by
 obtain⟨k,h1,h2⟩:=V6 (tx:=tx) hr hn (by omega) (ns.length+1) 0 0 (by omega) (.inl ⟨rfl,rfl⟩);have:LP tx ns=cls tx ns (k+2):=h2;rw[this];exact Aab hr hn h1 hi hj
theorem NN {α β γ:Type} (f:β->γ):∀ (l:List α) (m:List β),l.zip (m.map f)=(l.zip m).map fun p=>(p.1,f p.2)
 | [],_=>rfl
 | _::_,[]=>rfl
 | a::l,b::m=>by rw[List.map_cons,List.zip_cons_cons,List.zip_cons_cons,NN f l m];rfl
theorem Nc (f:Int->Int) (x:Sc×Int):∀ l,Iv (x.1,f x.2) (l.map fun p=>(p.1,f p.2))=(Iv x l).map fun p=>(p.1,f p.2)
 | []=>rfl
 | y::r=>by
  rw[List.map_cons];unfold Iv;dsimp only
  split
  ·rw[List.map_cons,Nc f x r]
  ·rfl
theorem Q3 (f:Int->Int):∀ l,Ky (l.map fun p=>(p.1,f p.2))=(Ky l).map fun p=>(p.1,f p.2)
 | []=>rfl
 | x::r=>by
  rw[List.map_cons];unfold Ky;rw[Q3 f r,Nc]
theorem Zb (n:Nat) (x:Nd):Dm (IM n x)=(Dm x).map fun p=>(p.1,p.2+(n:Int)):=by
 unfold Dm IM;dsimp only
 rw[List.length_map];split
 ·rw[NN];exact Q3 (fun k=>k+(n:Int)) _
 ·rfl
theorem Aey (n:Nat) (x:Nd):AB (IM n x)=(AB x).map (·+(n:Int)):=by
 unfold AB;rw[Zb];show(if x.kind=1 then _ else _)=_;split
 ·rfl
 ·rw[List.map_map,List.map_map];rfl
theorem Ab3 (n:Nat) (x:Nd):BK (IM n x)=BK x:=by
 unfold BK;rw[Zb,List.map_map];rfl
theorem KT {a b:List Nd} (hr:VK a):∀ k i,i<a.length->C7 tx (BJ a b) k i=C7 tx a k i
 | 0,_,_=>rfl
 | k+1,i,hi=>by
  unfold C7;have:(BJ a b)[i]? =a[i]? :=List.getElem?_append_left hi;rw[this,List.getElem?_eq_getElem hi];dsimp only
  congr 1;refine List.map_congr_left fun j hj=>KT hr k _ ?_;have:=hr _ (List.getElem_mem hi) j (CN hj);omega
theorem JB {a b:List Nd} (hr:VK b):∀ k i,i<b.length->C7 tx (BJ a b) k (i+a.length)=C7 tx b k i
 | 0,_,_=>rfl
 | k+1,i,hi=>by
  unfold C7;have:(BJ a b)[i+a.length]? =F (IM a.length b[i]):=by
   unfold BJ;rw[List.getElem?_append_right (by omega),show i+a.length - a.length=i by omega,List.getElem?_map,List.getElem?_eq_getElem hi];rfl
  rw[this,List.getElem?_eq_getElem hi];dsimp only
  rw[Ab3,Aey,List.map_map];congr 1;refine List.map_congr_left fun j hj=>?_;have:=hr _ (List.getElem_mem hi) j (CN hj);show C7 tx _ k (j+(a.length:Int)).toNat=_;rw[show(j+(a.length:Int)).toNat=j.toNat+a.length by omega];exact JB hr k _ (by omega)
theorem Q4 {a b:List Nd} (ha:VK a) (hb:VK b):VK (BJ a b):=by
 intro x hx k hk;have hl:(BJ a b).length=a.length+b.length:=by simp[BJ]
 rcases List.mem_append.1 hx with hx | hx
 ·have:=ha x hx k hk;omega
 ·obtain⟨y,hy,rfl⟩:=List.mem_map.1 hx;obtain⟨j,hj,rfl⟩:=List.mem_map.1 (show k∈y.kids.map (·+(a.length:Int)) from hk);have:=hb y hy j hj;omega
theorem EZ {g h:Gf} (hg:OkG g) (hh:OkG h):IE tx g h=true↔∀ m,C7 tx g.nodes m g.root.toNat=C7 tx h.nodes m h.root.toNat:=by
 have h1:=hg.root;have h2:=hh.root;have h3:=hg.len;have h4:=hh.len;have hl:(BJ g.nodes h.nodes).length=g.nodes.length+h.nodes.length:=by simp[BJ]
 unfold IE;rw[decide_eq_true_eq,Ym (Q4 hg.rng hh.rng) (by omega) (by omega) (by omega)];constructor
 ·intro e m;have:=e m
  rwa [KT hg.rng m _ (by omega),JB hh.rng m _ (by omega)] at this
 ·intro e m;rw[KT hg.rng m _ (by omega),JB hh.rng m _ (by omega)];exact e m
theorem Yb {g:Gf} (hg:OkG g):IE tx g g=true:=(EZ hg hg).2 fun _=>rfl
theorem Aa9 {g h:Gf} (hg:OkG g) (hh:OkG h):IE tx g h=IE tx h g:=by
 rw[Bool.eq_iff_iff,EZ hg hh,EZ hh hg];exact⟨fun e m=>(e m).symm,fun e m=>(e m).symm⟩
theorem Xa {g h k:Gf} (hg:OkG g) (hh:OkG h) (hk:OkG k) (h1:IE tx g h=true) (h2:IE tx h k=true):IE tx g k=true:=
 (EZ hg hk).2 fun m=>((EZ hg hh).1 h1 m).trans ((EZ hh hk).1 h2 m)
end
end
section
section
variable {P:Program} {n:Nat} {ds:List Deferred} {d:Bool} {ops:Array Oper} {K:Act->Y->Prop} {i:Nat} {pl pend:List Nat} {S:Y->Prop} {l:Env}
 {t:Nat} {ty:TypeId} {ps:String} {af:Array Edge} {gd:Option (Nat×Bool)}
end
theorem Tv (s:ByteArray) (k:Nat):(s.extract 0 k).size<=k:=by rw[ByteArray.size_extract];omega
end
section
theorem Afe:∀ rs:List Nat,(rs.flatMap Es).length<=4*rs.length
 | []=>by simp
 | r::rs=>by
  have h1:=RJ r;have h2:=Afe rs;rw[List.flatMap_cons,List.length_append,List.length_cons];omega
theorem Abi:∀ (n:Nat) (l:List UInt8),l.length<=n->(AJ l).length<=l.length
 | n,[],_=>by simp[J4]
 | 0,c::t,h=>by simp at h
 | n+1,c::t,h=>by
  have hne:c::t≠[]:=by simp
  have hw:=decodeL_width (c::t);have hl:(c::t).length<=n+1:=h;have ih:=Abi n ((c::t).drop (decodeL (c::t)).2) (by rw[List.length_drop];omega);rw[List.length_drop] at ih;rw[Bo _ hne,List.length_cons];have:0<(c::t).length:=by simp
  omega
theorem Ag3 (y:Sc) {M:Nat} (h:y.str.size<=M):(XY y).length<=4*M+20:=by
 unfold XY DN;split
 ·rename_i hr;show(⟨(Afu y).toArray⟩:ByteArray).data.toList.length<=_;rw[BM];rcases Kw hr with rfl | rfl | rfl | ⟨n,rfl,h0,h1⟩ | ⟨t,rfl,hv⟩
  ·exact Nat.le_trans (by decide:([110,117,108,108]:List UInt8).length<=20) (by omega)
  ·exact Nat.le_trans (by decide:([116,114,117,101]:List UInt8).length<=20) (by omega)
  ·exact Nat.le_trans (by decide:([102,97,108,115,101]:List UInt8).length<=20) (by omega)
  ·show(itoa n).length<=_;have:=itoa_length_le n (by omega) (by omega);have e:(itoa n).length<=21:=this;rw[Aed,List.length_append];have:=Jf n.natAbs (by omega);have h2:(Ae1 n).length<=1:=by unfold Ae1;split<;>simp
   omega
  ·show(Ft t.data.toList).length<=_;have h1:=Afe (AJ t.data.toList);have h2:=Abi _ t.data.toList Nr;unfold Ft;rw[Lib.size_eq] at h;simp only[List.length_cons,List.length_append,List.length_nil] at h |-;omega
 ·exact Nat.zero_le _
theorem Yo {M:Nat}:∀ ks:List Sc,(∀ y∈ks,y.str.size<=M)->(MR XY ks).length<=(4*M+21)*ks.length
 | [],_=>Nat.zero_le _
 | y::r,h=>by
  have h1:=Ag3 y (h y (List.mem_cons_self ..));have h2:=Yo r fun z hz=>h z (List.mem_cons_of_mem _ hz);unfold MR at h2 |-;rw[List.flatMap_cons,List.length_append,List.length_append,List.length_singleton,List.length_cons,Nat.mul_add,Nat.mul_one];omega
theorem OF {s:List UInt8} (hl:s.length<=100):∀ x∈(Am A6 100000 s).1.nodes,Qz 120 500 x:=by
 unfold Am;split
 ·exact fun x hx=>by cases hx
 ·show ∀ x∈(A8 A6 (Ba 100000 s).1).1.nodes,_;unfold A8;split
  ·have hs:Sm 120 (Ba 100000 s).1/\E5 500 (Ba 100000 s).1:=by
    have hb:=I1 s;have e:∀ y:Sc,(B0 y).s.length=y.str.size:=fun y=>by show y.str.data.toList.length=_;rw[Array.length_toList];rfl
    unfold Ba;split
    ·exact⟨EI _,EM _⟩
    ·refine⟨Pe fun es he=>?_,VL fun es he=>TS _ es he fun x hx=>?_⟩
     ·have h2:=(IF he (fun x hx=>by
       obtain⟨y,hy,rfl⟩:=List.mem_map.1 hx;have:=GC y hy;rw[e];show _/\0<=y.num/\y.num<=8000;omega)).2
      have h3:(((Al s).1.map B0).map fun x=>x.s.length+1).sum=WF (Al s).1:=by
       rw[List.map_map];unfold WF;congr 1
      have:=hb.1;omega
     ·obtain⟨y,hy,rfl⟩:=List.mem_map.1 hx;have:=hb.2 y hy;rw[e];omega
   exact SM A6 _ 1 ⟨[],[]⟩ hs.1 hs.2 (fun x hx=>by cases hx)
  ·exact fun x hx=>by cases hx
theorem QU {s:List UInt8} (hl:s.length<=100) (h:(Am A6 100000 s).2.2=0):GrQ (Am A6 100000 s).1:=by
 have hr:=CG h;have hq:=OF hl;have h3:=hr.len;exact⟨UQ hr,⟨by omega,fun x hx=>by have:=(hq x hx).keys;have:=(hq x hx).kids;omega⟩,fun x hx=>by
  have:=(hq x hx).str;exact⟨by omega,fun y hy=>by have:=this.2 y hy;omega⟩,(JK hr).root,h3,fun x hx=>⟨by have:=(hq x hx).kids;omega,Ly hr x hx⟩⟩
theorem XH (x:Nd):(BK x).length<=x.keys.length:=by
 unfold BK Dm;split
 ·rw[List.length_map,(Ca _).length_eq,List.length_zip];omega
 ·exact Nat.zero_le _
theorem YN {s t:List UInt8} (hs:s.length<=100) (ht:t.length<=100) (h1:(Am A6 100000 s).2.2=0) (h2:(Am A6 100000 t).2.2=0):Ys (BJ (Am A6 100000 s).1.nodes (Am A6 100000 t).1.nodes):=by
 have r1:=CG h1;have r2:=CG h2;have q1:=OF hs;have q2:=OF ht;have l1:=r1.len;have l2:=r2.len;have key:∀ x∈BJ (Am A6 100000 s).1.nodes (Am A6 100000 t).1.nodes,Qz 120 500 x/\x.keys.Nodup:=by
  intro x hx;rcases List.mem_append.1 hx with hx | hx
  ·exact⟨q1 x hx,J9 (r1.ok x hx)⟩
  ·obtain⟨y,hy,rfl⟩:=List.mem_map.1 hx;have hq:=q2 y hy;exact⟨⟨hq.keys,by show(y.kids.map _).length<=_;rw[List.length_map];exact hq.kids,hq.str⟩,(show y.keys.Nodup from J9 (r2.ok y hy))⟩
 refine⟨by show(_++List.map _ _).length<=_;rw[List.length_append,List.length_map];omega,fun x hx=>?_,fun x hx=>(key x hx).2,fun x hx=>LE YD _ ?_,fun x hx y hy=>?_,fun x hx=>?_,Q4 (Ly r1) (Ly r2)⟩
 ·have:=(key x hx).1.keys;have:=(key x hx).1.kids;omega
 ·have:=(key x hx).1.keys;omega
 ·have:=(key x hx).1.str.2 y hy;omega
 ·have a:=(key x hx).1;have b:=Yo (M:=500) (BK x) fun y hy=>a.str.2 y (N4 hy);have c:=XH x;have d:=a.keys;have e:=Nat.mul_le_mul_left (4*500+21) (Nat.le_trans c d);omega
end
section
theorem Uv (s:List UInt8):AY s s=(decide ((Am A6 100000 s).2.2=0),(Am A6 100000 s).2.2):=by
 unfold AY;by_cases h:(Am A6 100000 s).2.2=0
 ·rw[if_neg (fun e=>e h),if_neg (fun e=>e h),Yb (JK (CG h)),h];rfl
 ·rw[if_pos h,decide_eq_false h]
theorem Jh {s t:List UInt8} (h:(AY s t).1=true):(Am A6 100000 s).2.2=0/\(Am A6 100000 t).2.2=0/\IE XY (Am A6 100000 s).1 (Am A6 100000 t).1=true:=by
 unfold AY at h;by_cases h1:(Am A6 100000 s).2.2=0
 ·rw[if_neg (fun e=>e h1)] at h;by_cases h2:(Am A6 100000 t).2.2=0
  ·rw[if_neg (fun e=>e h2)] at h;exact⟨h1,h2,h⟩
  ·rw[if_pos h2] at h;cases h
 ·rw[if_pos h1] at h;cases h
theorem RI {s t:List UInt8} (h1:(Am A6 100000 s).2.2=0) (h2:(Am A6 100000 t).2.2=0) (h:IE XY (Am A6 100000 s).1 (Am A6 100000 t).1=true):(AY s t).1=true:=by
 unfold AY;rw[if_neg (fun e=>e h1),if_neg (fun e=>e h2)];exact h
theorem M1 {s t:List UInt8} (h:(AY s t).1=true):(AY t s).1=true:=by
 obtain⟨h1,h2,h3⟩:=Jh h;exact RI h2 h1 (by rw[Aa9 (JK (CG h2)) (JK (CG h1))];exact h3)
theorem SY (s t:List UInt8):(AY s t).1=(AY t s).1:=by
 rw[Bool.eq_iff_iff];exact⟨M1,M1⟩
theorem PN {s t u:List UInt8} (h:(AY s t).1=true) (k:(AY t u).1=true):(AY s u).1=true:=by
 obtain⟨h1,h2,h3⟩:=Jh h;obtain⟨_,k2,k3⟩:=Jh k;exact RI h1 k2 (Xa (JK (CG h1)) (JK (CG h2)) (JK (CG k2)) h3 k3)
theorem Abq (s t u:ByteArray) (w:Y) (hW:FI w):Calls Tryz.prog 6 #[Q s,Q t,Q u] w fun e w'=>e=.returned (.bool true)/\Below w.heap.size w w':=by
 obtain⟨m,hm⟩:∃ m,min s.size 100=m:=⟨_,rfl⟩
 obtain⟨k,hk⟩:∃ k,min t.size 100=k:=⟨_,rfl⟩
 obtain⟨j,hj⟩:∃ j,min u.size 100=j:=⟨_,rfl⟩
 obtain⟨S,hS⟩:∃ S,s.extract 0 m=S:=⟨_,rfl⟩
 obtain⟨T,hT⟩:∃ T,t.extract 0 k=T:=⟨_,rfl⟩
 obtain⟨U,hU⟩:∃ U,u.extract 0 j=U:=⟨_,rfl⟩
 have hSs:S.size<=100:=by rw[<- hS];exact Nat.le_trans (Tv s m) (by omega:m<=100)
 have hTs:T.size<=100:=by rw[<- hT];exact Nat.le_trans (Tv t k) (by omega:k<=100)
 have hUs:U.size<=100:=by rw[<- hU];exact Nat.le_trans (Tv u j) (by omega:j<=100)
 have al:∀ (X Yz:ByteArray),X.size<=100->Yz.size<=100->∀ w',FI w'->Calls Tryz.prog 16 #[Q X,Q Yz] w' fun e w2=>e=.returned (.tuple #[.bool (AY X.data.toList Yz.data.toList).1,I J (AY X.data.toList Yz.data.toList).2])/\Below w'.heap.size w' w2:=fun X Yz hX hY w' h=>by
  rw[Lib.size_eq] at hX hY;exact Nx X Yz w' h (QU hX) (QU hY) (YN hX hY)
 have a1:=al S S hSs hSs;have a2:=al S T hSs hTs;have a3:=al T S hTs hSs;have a4:=al T U hTs hUs;have a5:=al S U hSs hUs;have hL:=fun w' (h:FI w')=>Et S w' h;have e23:=SY S.data.toList T.data.toList;have e45:(AY S.data.toList T.data.toList).1=true->(AY T.data.toList U.data.toList).1=true->(AY S.data.toList U.data.toList).1=true:=PN;rw[Uv] at a1;clear al;generalize Am A6 100000 S.data.toList=L at a1 hL;generalize AY S.data.toList T.data.toList=B at a2 e23 e45;generalize AY T.data.toList S.data.toList=C at a3 e23;generalize AY T.data.toList U.data.toList=D at a4 e45;generalize AY S.data.toList U.data.toList=G at a5 e45;obtain⟨LG,no,er⟩:=L;obtain⟨b,b2⟩:=B;obtain⟨c,c2⟩:=C;obtain⟨d,d2⟩:=D;obtain⟨g,g2⟩:=G;dsimp only at a1 a2 a3 a4 a5 e23 e45;subst e23;refine V.enter _ Tryz.func6 (Mem.start (C:=Ao) w) ?_
 repeat refine W ?_
 refine R.c (fun w' h'=>JP w' (hW.to h'.1.below)) ?_
 repeat refine W ?_
 refine R.cut (s:=s) m (m:=min (s.size:Int) 100) (by omega) (by omega) ?_;rw[hS]
 repeat refine W ?_
 refine R.cut (s:=t) k (m:=min (t.size:Int) 100) (by omega) (by omega) ?_;rw[hT]
 repeat refine W ?_
 refine R.cut (s:=u) j (m:=min (u.size:Int) 100) (by omega) (by omega) ?_;rw[hU]
 repeat refine W ?_
 refine R.cf (fun w' h'=>hL w' (hW.to h'.1.below)) (fun q=>?_)
 repeat (first | refine W ?_ | refine R.new fun _ _=>?_)
 refine R.c (fun w' h'=>a1 w' (hW.to h'.1.below)) ?_
 repeat refine W ?_
 refine R.c (fun w' h'=>a2 w' (hW.to h'.1.below)) ?_
 repeat refine W ?_
 refine R.c (fun w' h'=>a3 w' (hW.to h'.1.below)) ?_
 repeat refine W ?_
 refine R.c (fun w' h'=>a4 w' (hW.to h'.1.below)) ?_
 repeat refine W ?_
 refine R.c (fun w' h'=>a5 w' (hW.to h'.1.below)) ?_;have fin:(b=false\/d=false\/g=true):=by
  cases b<;>cases d<;>simp at e45 |-;exact e45
 cases b<;>cases d<;>cases g<;>(try (simp at fin;done))
 all_goals
  repeat refine W ?_
  refine R.re 85 (v:=.bool (decide (er=0)==(er==0))) (v':=.bool true) (by by_cases h:er=0<;>simp[h]) ?_
  repeat refine W ?_
  refine V.end fun w' h'=>?_;exact⟨rfl,h'.1.below⟩
end
end Go.Proofs.YtdpppepmkeinaaaGreatDoor
