/- What is proved: a part of the walk of the program and of its plain laws; no condition beside those that each theorem names. -/
import Derived.Test.YtdpppepmkeinaaaGreatDoorYg
import Derived.Test.YtdpppepmkeinaaaGreatDoorYh
import Derived.Test.YtdpppepmkeinaaaGreatDoorYa
import Derived.Deep.RegionHeld3
import Derived.OrdersIn
import Derived.RangeFuncCalls
import Derived.RowKit
import Derived.Stop.RegionWithIn
import Derived.Defers
import Derived.Sort.LoopGhostIn
namespace Go.Proofs.YtdpppepmkeinaaaGreatDoor
open Go Go.RowKit Go.Lib
open Go.Value renaming int->I,string->Q,slice->Z
open Go.IntKind renaming i64->J
open Option renaming none->O,some->F
open _root_.Go renaming World->Y
set_option linter.unusedSimpArgs false
set_option linter.unusedVariables false
set_option linter.unusedSectionVars false
section
set_option maxRecDepth 100000
set_option maxHeartbeats 4000000
attribute [local go_sem] Oper.semAt_some GA D4
def EQ (k:Nat) (r:List UInt8):Sc:=⟨k,(r.length:Int) - (Cx r).length,⟨(Gd (Cx r)).toArray⟩⟩
def BN:List (Nat×List UInt8)->List Sc->List Sc×Int×Int
 | [],acc=>(acc,0,0)
 | (k,r)::rs,acc=>if AK r≠0 then ([],k,AK r) else BN rs (if FJ r then acc++[EQ k r] else acc)
def Al (s:List UInt8):List Sc×Int×Int:=if 8000<s.length then ([],0,20) else if validD s then BN (C8 1 (Cc s)) [] else ([],0,40)
def CR (w:Y) (B:Nat) (v:Value) (ts:List Sc):Prop:=w.ownsRow B 144 3 v ts.length (ts.flatMap BO)
theorem Aev:(Tryz.prog.info? 144).map (fun i=>(i.zero,i.size,i.bytes))=F (F (.agg #[I J 0,I J 0,Q ⟨#[]⟩]),3,32):=by kernel_rfl
theorem CR.sl {w:Y} {B:Nat} {v:Value} {ts:List Sc} (h:CR w B v ts):MP w v ts:=by
 rcases h.2 with ⟨hv,h0⟩ | ⟨g,cap,cur,hv,hb,hg,hnc,hcm,hsz,htake⟩
 ·have:ts=[]:=List.eq_nil_of_length_eq_zero h0;subst this;rw[hv];exact MP.nil w
 ·refine⟨F ⟨g,0,O⟩,cap,hv,fun k hk=>⟨g,0,rfl,(Gl hg),?_⟩⟩;obtain⟨f0,f1,f2⟩:=Qi ts k hk;have hc:∀ j u,(ts.flatMap BO)[j]? =F u->w.cell? ⟨g,j,O⟩=F u:=fun j u hj=>by
   rw[cell_of_row w g j cur 144 (0,0) hg];rw[<- htake,List.getElem?_take] at hj;split at hj
   ·rw[Array.getElem?_toList] at hj;exact hj
   ·cases hj
  rw[Nat.zero_add];exact⟨hc _ _ f0,hc _ _ f1,hc _ _ f2⟩
theorem CR.turn {X Yz:Y} {C:Nat->Prop} {m B:Nat} {v:Value} {ts:List Sc} (h:CR X B v ts) (ht:Ah C m X Yz) (hC:∀ k,C k->k<B):CR Yz B v ts:=by
 refine⟨h.1,?_⟩;rcases h.2 with h0 | ⟨g,cap,cur,hv,hb,hg,hr⟩
 ·exact .inl h0
 ·exact .inr ⟨g,cap,cur,hv,hb,ht.heap hg (fun e=>by have:=hC g e;omega) rfl,hr⟩
def LY (r:List Sc×Int×Int) (w:Y) (e:Ending) (w':Y):Prop:=∃ v,e=.returned (.tuple #[v,I J r.2.1,I J r.2.2])/\CR w' w.heap.size v r.1/\Below w.heap.size w w'
theorem CR.nil (w:Y) (B:Nat):CR w B (Z O 0 0) []:=⟨rfl,.inl ⟨rfl,rfl⟩⟩
theorem CR.less {w:Y} {B C:Nat} {v:Value} {ts:List Sc} (h:CR w B v ts) (hC:C<=B):CR w C v ts:=by
 refine⟨h.1,?_⟩;rcases h.2 with h0 | ⟨g,cap,cur,hv,hb,hr⟩
 ·exact .inl h0
 ·exact .inr ⟨g,cap,cur,hv,Nat.le_trans hC hb,hr⟩
theorem ZB (w:Y):Calls Tryz.prog 324 #[.agg #[]] w fun e w'=>e=.returned (I J 80)/\Below w.heap.size w w':=by
 go_enter Tryz.func324,Tryz.ntmps324;go_wp2;go_ret;exact⟨rfl,(Bq _ w).alloc Nr _⟩
theorem Aa7 (w:Y):Calls Tryz.prog 325 #[.agg #[]] w fun e w'=>e=.returned (I J 81)/\Below w.heap.size w w':=by
 go_enter Tryz.func325,Tryz.ntmps325;go_wp2;go_ret;exact⟨rfl,(Bq _ w).alloc Nr _⟩
theorem TQ (s:ByteArray) (w:Y) (h8:8000<s.size):
  Calls Tryz.prog 48 #[Q s] w (LY ([],0,20) w):=by
 have h8i:(8000:Int)<(s.size:Int):=by omega
 refine(callsIn_wide (n:=0)).1 ?_;refine callsIn_of_wp_marks Tryz.func48 rfl trivial ?_ rfl;refine wpIn_wide.2 ?_;simp only[Tryz.ntmps48,List.size_toArray,List.length_cons,List.length_nil,Nat.reduceAdd,Nat.reduceSub,Array.replicate_succ,Array.replicate_zero,List.push_toArray,List.append_toArray,List.nil_append,List.cons_append]
 obtain⟨N,hN⟩:∃ N,w.heap.size=N:=⟨_,rfl⟩
 have hb0:Below N w (((w.alloc (.cells #[Z O 0 0] 96)).alloc (.cells #[I J 0] 3)).alloc (.cells #[I J 0] 27)):=(((Bq N w).alloc (by omega) _).alloc (by simp;omega) _).alloc (by simp;omega) _;clear h8;subst hN;go_wp2;refine⟨.tuple #[Z O 0 0,I J 0,I J 20],by simp[results,Tryz.f48,go_sem],?_⟩;refine⟨_,rfl,CR.nil _ _,?_⟩;first | exact hb0 | exact(((Bq _ w).alloc Nr _).alloc (by simp) _).alloc (by simp;omega) _
theorem Wx (s:ByteArray) (w:Y) (h8:¬8000<s.size) (hv:validD s.data.toList=false) (hT:Bf w):
  Calls Tryz.prog 48 #[Q s] w (LY ([],0,40) w):=by
 have h8i:¬(8000:Int)<(s.size:Int):=by omega
 have hR:=fun wx hx=>B2 s wx (by omega) hx;rw[hv] at hR;clear hv;refine(callsIn_wide (n:=0)).1 ?_;refine callsIn_of_wp_marks Tryz.func48 rfl trivial ?_ rfl;refine wpIn_wide.2 ?_;simp only[Tryz.ntmps48,List.size_toArray,List.length_cons,List.length_nil,Nat.reduceAdd,Nat.reduceSub,Array.replicate_succ,Array.replicate_zero,List.push_toArray,List.append_toArray,List.nil_append,List.cons_append]
 obtain⟨N,hN⟩:∃ N,w.heap.size=N:=⟨_,rfl⟩
 have hb0:Below N w (((w.alloc (.cells #[Z O 0 0] 96)).alloc (.cells #[I J 0] 3)).alloc (.cells #[I J 0] 27)):=(((Bq N w).alloc (by omega) _).alloc (by simp;omega) _).alloc (by simp;omega) _;go_wp2_with fail;refine(hR _ (hT.below (hN▸hb0))).mono ?_;rintro e w1 ⟨rfl,hb1⟩;obtain⟨b0,b1,b2⟩:=FS w 96 3 27 (Z O 0 0) (I J 0) (I J 0);rw[hN] at b0 b1 b2;replace b0:=Ab b0 hb1;replace b1:=Ab b1 hb1;replace b2:=Ab b2 hb1;have hb2:=hb0.trans (hb1.mono (by have:=hb0.size;omega));have c0:=b0.cell;have f0:=b0.frozen;have c1:=b1.cell;have f1:=b1.frozen;have c2:=b2.cell;have f2:=b2.frozen;clear h8 hR hb1 hb0;go_wp2;obtain⟨e1,e2,e3,hb3⟩:=TV hb2 b0 b1 b2 (by omega) (Z O 0 0) (I J 0) (I J 40);refine⟨.tuple #[Z O 0 0,I J 0,I J 40],by simp[results,Tryz.f48,go_sem,e1,e2,e3],?_⟩;exact⟨_,rfl,CR.nil _ _,by rw[hN];exact hb3⟩
theorem QG:∀ (f:Nat) (s:List UInt8),(Gv f s).length<=s.length/\∀ r∈Gv f s,r.length<=s.length
 | 0,s=>⟨by simp[Gv],by simp[Gv]⟩
 | f+1,s=>by
  unfold Gv;split
  ·exact⟨by simp,by simp⟩
  ·rename_i h;obtain⟨h1,h2⟩:=QG f (Bz s);have h3:=EP h;refine⟨by simp only[List.length_cons];omega,fun r hr=>?_⟩;rcases List.mem_cons.1 hr with rfl | hr
   ·exact QX s
   ·have:=h2 r hr;omega
theorem Nw:∀ (k:Nat) (l:List (List UInt8)),(C8 k l).length=l.length
 | _,[]=>rfl
 | k,_::r=>by simp[C8,Nw (k+1) r]
theorem N9:∀ (k:Nat) (l:List (List UInt8)) (x:Nat×List UInt8),x∈C8 k l->x.2∈l/\k<=x.1/\x.1<k+l.length
 | _,[],x,h=>by cases h
 | k,r::rs,x,h=>by
  rcases List.mem_cons.1 h with rfl | h
  ·exact⟨by simp,by simp,by simp⟩
  ·obtain⟨h1,h2,h3⟩:=N9 (k+1) rs x h;exact⟨List.mem_cons_of_mem _ h1,by omega,by simp only[List.length_cons];omega⟩
theorem Z5 {k:Nat} {r:List UInt8} {rs:List (Nat×List UInt8)} {acc:List Sc} (h:AK r=0):BN ((k,r)::rs) acc=BN rs (if FJ r then acc++[EQ k r] else acc):=by
 rw[BN,if_neg (by simp[h])]
theorem Xe {k:Nat} {r:List UInt8} {rs:List (Nat×List UInt8)} {acc:List Sc} (h:AK r≠0):BN ((k,r)::rs) acc=(([]:List Sc),(k:Int),AK r):=by
 rw[BN,if_pos h]
theorem MH (r:List UInt8):AK r=0\/AK r=80\/AK r=81:=by
 unfold AK;split
 ·split
  ·exact .inr (.inr rfl)
  ·exact .inl rfl
 ·exact .inr (.inl rfl)
theorem CR.row {w:Y} {B:Nat} {v:Value} {ts:List Sc} (h:CR w B v ts) {k:Nat} (hk:v.ownBlock=F k):B<=k/\∃ cur,w.heap[k]? =F (.cells cur 144 (0,0)):=by
 rcases h.2 with ⟨rfl,_⟩ | ⟨g,cap,cur,rfl,hb,hg,_⟩
 ·simp[Value.ownBlock] at hk
 ·simp[Value.ownBlock] at hk;subst hk;exact⟨hb,cur,hg⟩
theorem CR.keep {X Yz:Y} {B:Nat} {v:Value} {ts:List Sc} (h:CR X B v ts) (hk:∀ (j:Nat) (c:Array Value),B<=j->X.heap[j]? =F (Obj.cells c 144 (0,0))->Yz.heap[j]? =F (Obj.cells c 144 (0,0))):CR Yz B v ts:=by
 refine⟨h.1,?_⟩;rcases h.2 with h0 | ⟨g,cap,cur,hv,hb,hg,hr⟩
 ·exact .inl h0
 ·exact .inr ⟨g,cap,cur,hv,hb,hk g cur hb hg,hr⟩
theorem Agc {C:Nat->Prop} {N M B:Nat} {Wb w5:Y} {v v':Value} {ts:List Sc} {x:Sc} {o:Obj} (hN:N<=M) (hMB:M<B) (hBz:B<=Wb.heap.size) (hC:∀ j,C j->j<B/\j≠M) (h2:Boxed Wb M 96 v) (h3:CR Wb B v ts)
  (hown:w5.ownsRow B 144 3 v' (ts.length+1) (ts.flatMap BO++BO x)) (hg:(Wb.alloc o).grownBy w5 v.ownBlock):
  Ae Ar C N Wb (w5.setCell ⟨M,0,O⟩ v')/\Boxed (w5.setCell ⟨M,0,O⟩ v') M 96 v'/\CR (w5.setCell ⟨M,0,O⟩ v') B v' (ts++[x])/\w5.cell? ⟨M,0,O⟩=F v/\w5.frozen? ⟨M,0,O⟩=false∧
  (∀ (j:Nat) (ob:Obj),j<B->j≠M->Wb.heap[j]? =F ob->(w5.setCell ⟨M,0,O⟩ v').heap[j]? =F ob):=by
 have hrow:∀ j (ob:Obj),j<B->Wb.heap[j]? =F ob->w5.heap[j]? =F ob:=fun j ob hT hj=>by
  have hjl:j<Wb.heap.size:=(Gl hj)
  refine(hg.block j (by simp;omega) (fun e=>?_)).trans ((Below.heap_alloc Wb o j hjl).trans hj);obtain⟨hb,_⟩:=h3.row e.symm;omega
 have hM5:Boxed w5 M 96 v:=hrow M _ hMB h2;refine⟨?_,hM5.set v',?_,hM5.cell,hM5.frozen,fun j ob hB hj hh=>(Bh w5 ⟨M,0,O⟩ v' j hj).trans (hrow j ob hB hh)⟩
 ·refine((Ae.alloc Wb o).trans (Ae.grown hg (fun k hk=>?_))).trans (Ae.setCell w5 ⟨M,0,O⟩ v' hN (fun h=>(hC _ h).2 rfl));obtain⟨hb,cur,hc⟩:=h3.row hk;have hkl:k<Wb.heap.size:=(Gl hc)
  refine⟨by omega,fun hck=>?_,fun o' ho'=>?_⟩
  ·have:=(hC k hck).1;omega
  ·rw[Below.heap_alloc Wb o k hkl,hc] at ho';injection ho' with ho';rw[<- ho'];rfl
 ·refine⟨by rw[NK],?_⟩;rcases hown.2 with ⟨_,h0⟩ | ⟨g,cap,cur,hv,hb,hgc,h4,h5,h6,h7⟩
  ·omega
  ·exact .inr ⟨g,cap,cur,by rw[hv];simp,hb,(Bh w5 ⟨M,0,O⟩ v' g (fun e=>by have e':g=M:=e;omega)).trans hgc,by simpa using h4,h5,h6,by rw[List.flatMap_append,List.length_append];simpa using h7⟩
theorem Aep (w:Y):(Go.method 587 211 (.agg #[]) "sigillary/lines.why").run Tryz.prog w=.ok (324,.agg #[]) w:=by kernel_rfl
theorem Aeg (w:Y):(Go.method 587 212 (.agg #[]) "sigillary/lines.why").run Tryz.prog w=.ok (325,.agg #[]) w:=by kernel_rfl
theorem Ac0 (w:Y):(nilAhead 587 211 (.agg #[]) "sigillary/lines.why").run Tryz.prog w=.ok (F false) w:=by kernel_rfl
theorem Acd (w:Y):(nilAhead 587 212 (.agg #[]) "sigillary/lines.why").run Tryz.prog w=.ok (F false) w:=by kernel_rfl
theorem SR (s:ByteArray) (w:Y) (h8:¬8000<s.size) (hv:validD s.data.toList=true) (hT:Bf w) (hLT:MB w):
  Calls Tryz.prog 48 #[Q s] w (LY (BN (C8 1 (Cc s.data.toList)) []) w):=by
 have h8i:¬(8000:Int)<(s.size:Int):=by omega
 have hR:=fun wx hx=>B2 s wx (by omega) hx;rw[hv] at hR;clear hv;have hit:=fun Bs n₀ (hN:w.heap.size<=n₀) (hB:w.heap.size<=Bs)=>Xd s Bs n₀ w hLT hN hB (by omega);obtain⟨r1,r2⟩:=QG s.data.toList.length s.data.toList;have hlen:=Nw 1 (Cc s.data.toList);have hmem:=fun x hx=>N9 1 (Cc s.data.toList) x hx;have hsz:s.data.toList.length<=8000:=by rw[<- Lib.size_eq];omega
 have HXN:=hid (show(C8 1 (Cc s.data.toList)).length<=8000 by rw[hlen];unfold Cc;omega);have HXL:=hid (show ∀ x∈C8 1 (Cc s.data.toList),x.2.length<=8000 from fun x hx=>by have:=r2 x.2 (hmem x hx).1;omega);clear hlen hmem r1 r2 hsz;obtain⟨X,hX⟩:∃ X,C8 1 (Cc s.data.toList)=X:=⟨_,rfl⟩
 rw[hX] at hit HXN HXL |-;have HIT:=hid hit;clear hit hX h8;refine(callsIn_wide (n:=0)).1 ?_;refine callsIn_of_wp_marks Tryz.func48 rfl trivial ?_ rfl;refine wpIn_wide.2 ?_;simp only[Tryz.ntmps48,List.size_toArray,List.length_cons,List.length_nil,Nat.reduceAdd,Nat.reduceSub,Array.replicate_succ,Array.replicate_zero,List.push_toArray,List.append_toArray,List.nil_append,List.cons_append]
 obtain⟨N,hN⟩:∃ N,w.heap.size=N:=⟨_,rfl⟩
 have hb0:Below N w (((w.alloc (.cells #[Z O 0 0] 96)).alloc (.cells #[I J 0] 3)).alloc (.cells #[I J 0] 27)):=(((Bq N w).alloc (by omega) _).alloc (by simp;omega) _).alloc (by simp;omega) _;go_wp2_with fail;refine(hR _ (hT.below (hN▸hb0))).mono ?_;rintro e w1 ⟨rfl,hb1⟩;obtain⟨b0,b1,b2⟩:=FS w 96 3 27 (Z O 0 0) (I J 0) (I J 0);rw[hN] at b0 b1 b2;replace b0:=Ab b0 hb1;replace b1:=Ab b1 hb1;replace b2:=Ab b2 hb1;have hb2:=hb0.trans (hb1.mono (by have:=hb0.size;omega));clear hb0 hb1 hR;obtain⟨M,hM⟩:∃ M,w1.heap.size=M:=⟨_,rfl⟩
 have hNM:N+1+1<M:=by rw[<- hM];exact(Array.getElem?_eq_some_iff.1 (show w1.heap[N+1+1]? =_ from b2)).1
 go_wp2_with fail;refine(Y5 s _).mono ?_;rintro e w3 ⟨rfl,hw3⟩;have hz2:(w1.alloc (.cells #[Z O 0 0] 96)).heap.size=M+1:=by simp[hM]
 have hBox:Boxed w3 (M+1) 9 (Q s):=by rw[hw3,<- hz2];exact Boxed.new _ _ _
 have bo:Boxed w3 M 96 (Z O 0 0):=by rw[hw3,<- hM];exact(Boxed.new w1 _ _).alloc _
 replace b0:Boxed w3 N 96 (Z O 0 0):=by rw[hw3];exact(b0.alloc _).alloc _
 replace b1:Boxed w3 (N+1) 3 (I J 0):=by rw[hw3];exact(b1.alloc _).alloc _
 replace b2:Boxed w3 (N+1+1) 27 (I J 0):=by rw[hw3];exact(b2.alloc _).alloc _
 have hb4:Below N w w3:=by rw[hw3];exact(hb2.alloc (by omega) _).alloc (by simp;omega) _
 have hz3:w3.heap.size=M+1+1:=by rw[hw3];simp[hM]
 rw[hz2];clear hw3 hb2 hz2 hM;go_wp2;refine(wpIn_wide (n:=0)).1 ?_;refine DC (gf:=103) (lb:=#[.pointer (F ⟨M+1,0,O⟩)]) rfl (enters_of Tryz.func103 (by kernel_rfl) rfl) (HIT.out (M+1) N (by omega) (by omega))
  (fun Yz hY=>⟨Ab hBox hY,hN▸hb4.trans (hY.mono (by have:=hb4.size;omega))⟩) (fun k hk=>by omega) (by omega) (fun x=>rfl)
  (fun pre W=>∃ v ts,Hid (ts.length<=pre.length/\∀ rest,X=pre++rest->BN X []=BN rest ts)/\Boxed W M 96 v/\CR W (M+1+1) v ts/\Boxed W N 96 (Z O 0 0)/\Boxed W (N+1) 3 (I J 0)/\Boxed W (N+1+1) 27 (I J 0)/\Below N w W/\M+1<W.heap.size)
  (fun co pre W=>co=.ret/\∃ (k:Nat) (e:Int),Hid (BN X []=([],(k:Int),e))/\Boxed W N 96 (Z O 0 0)/\Boxed W (N+1) 3 (I J k)/\Boxed W (N+1+1) 27 (I J e)/\Below N w W)
  ?hI ?hIx ⟨Z O 0 0,[],hid ⟨Nat.le_refl _,fun rest h=>by rw[h];rfl⟩,bo,⟨rfl,.inl ⟨rfl,rfl⟩⟩,b0,b1,b2,hb4,by omega⟩ ?round ?done ?stop
 case hI=>
  rintro pre A Yz ⟨v,ts,h1,h2,h3,h4,h5,h6,h7,h8⟩ ht;exact⟨v,ts,h1,Ad h2 ht (by omega),h3.turn ht (fun k hk=>by omega),Ad h4 ht (by omega),Ad h5 ht (by omega),Ad h6 ht (by omega),ht.below h7 (fun k hk=>by omega) (by omega) (by omega),Nat.lt_of_lt_of_le h8 ht.size⟩
 case hIx=>
  rintro co pre A Yz ⟨h1,p,e,h2,h3,h4,h5,h6⟩ ht;exact⟨h1,p,e,h2,Ad h3 ht (by omega),Ad h4 ht (by omega),Ad h5 ht (by omega),ht.below h6 (fun k hk=>by omega) (by omega) (by omega)⟩
 case round=>
  rintro l pre ⟨k,r⟩ W hl ⟨v,ts,h1,h2,h3,h4,h5,h6,h7,h8⟩ hpre;have hr8:=HXL.out (k,r) (hpre.subset (by simp));have hpl:pre.length+1<=8000:=by have e1:=hpre.length_le;have e2:=HXN.out;simp at e1;omega
  have HPR:=hid (show ∃ rest,X=pre++((k,r)::rest)/\X=(pre++[(k,r)])++rest by obtain⟨rest,hrest⟩:=hpre;exact⟨rest,by rw[<- hrest];simp,hrest.symm⟩);clear hpre;unfold YS;dsimp only at hr8;have hr8':(⟨r.toArray⟩:ByteArray).size<=8000:=by rw[Lib.size_eq];exact hr8
  have hdt:(⟨r.toArray⟩:ByteArray).data.toList=r:=rfl;obtain⟨rb,hrb⟩:∃ z:ByteArray,(⟨r.toArray⟩:ByteArray)=z:=⟨_,rfl⟩
  rw[hrb] at hr8' hdt;simp only[hrb]
  gi_wp2
  refine⟨Ae.alloc W _,fun Wb ht _=>?_⟩;have hta:Ah (fun k=>k=M+1) w3.heap.size W Wb:=(Ah.alloc W _).trans ht;have hRB:Boxed Wb W.heap.size 138 (Q rb):=ht.heap (Wn W _) (fun hc=>by omega) rfl;replace h2:=Ad h2 hta (by omega);replace h3:=h3.turn hta (fun k hk=>by omega);replace h4:=Ad h4 hta (by omega);replace h5:=Ad h5 hta (by omega);replace h6:=Ad h6 hta (by omega);replace h7:=hta.below h7 (fun k hk=>by omega) (by omega) (by omega);have hWz:W.heap.size<=Wb.heap.size:=hta.size;replace h8:=Nat.lt_of_lt_of_le h8 hta.size;have hRl:W.heap.size<Wb.heap.size:=(Array.getElem?_eq_some_iff.1 (show Wb.heap[W.heap.size]? =_ from hRB)).1;have hkp:Ae Ar (fun k=>k=M+1) N Wb Wb:=Ae.refl _ _ _ _;obtain⟨Rn,hRn⟩:∃ z,W.heap.size=z:=⟨_,rfl⟩
  rw[hRn] at hRB hWz hRl |-;clear ht hta hRn;have hTR:=CallsIn.inRound l ((callsIn_wide (n:=0)).2 (Q8 rb Wb (by omega)));rw[hdt] at hTR;have cR:=hRB.cell
  gi_wp2_with fail
  refine hTR.mono ?_;rintro e w4 ⟨rfl,hb5⟩;clear hTR cR;have hs5:Wb.heap.size<=w4.heap.size:=hb5.size;have hk5:Ae Ar (fun k=>k=M+1) N Wb w4:=Ae.of_below hb5;replace h2:=Ab h2 hb5;replace h3:CR w4 (M+1+1) v ts:=h3.keep (fun j c hj hh=>Ay hh hb5);replace h4:=Ab h4 hb5;replace h5:=Ab h5 hb5;replace h6:=Ab h6 hb5;replace h7:=h7.trans (hb5.mono (by omega));replace hRB:=Ab hRB hb5;have cR:=hRB.cell;clear hb5 hkp;by_cases ht0:AK r=0
  ·have HST:=hid (show ∀ rest,X=(pre++[(k,r)])++rest->BN X []=BN rest (if FJ r then ts++[EQ k r] else ts) from fun rest h=>by
    rw[h1.out.2 ((k,r)::rest) (by rw[h];simp),Z5 ht0])
   rw[ht0,show trV 0=.nilIface from rfl];have hLN:=fun wx=>CallsIn.inRound l ((callsIn_wide (n:=0)).2 (Z2 rb k wx (by omega)));rw[hdt] at hLN
   gi_wp2_with fail
   refine(hLN _).mono ?_;rintro e w5 ⟨rfl,hb6⟩;obtain⟨LN,hLN⟩:∃ z,EQ k r=z:=⟨_,rfl⟩
   obtain⟨l0,l1,l2⟩:=LN;have e0:(k:Int)=l0:=by unfold EQ at hLN;injection hLN
   have e1:((rb.size:Int) - (Cx r).length)=l1:=by unfold EQ at hLN;injection hLN with _ h _;rw[<- h,<- hdt,Lib.size_eq]
   have e2:(⟨(Gd (Cx r)).toArray⟩:ByteArray)=l2:=by unfold EQ at hLN;injection hLN
   subst e0;rw[hLN] at HST;rw[e1,e2];have hbl:Below w5.heap.size w5 (w5.alloc (.cells #[I J k,I J l1,Q l2] 144)):=(Bq _ _).alloc Nr _;have hX:=Wn w5 (.cells #[I J k,I J l1,Q l2] 144);have hk7:Ae Ar (fun k=>k=M+1) N Wb (w5.alloc (.cells #[I J k,I J l1,Q l2] 144)):=(hk5.trans (Ae.of_below hb6)).trans (Ae.of_below hbl);have hs6:w4.heap.size<=w5.heap.size:=hb6.size;have HC1:=hid (Ab h2 hb6);replace h2:=Ab (Ab h2 hb6) hbl;replace h3:CR (w5.alloc (.cells #[I J k,I J l1,Q l2] 144)) (M+1+1) v ts:=h3.keep (fun j c hj hh=>Ay (Ay hh hb6) hbl);replace h4:=Ab (Ab h4 hb6) hbl;replace h5:=Ab (Ab h5 hb6) hbl;replace h6:=Ab (Ab h6 hb6) hbl;replace h7:=(h7.trans (hb6.mono (by have:=h7.size;omega))).trans (hbl.mono (by have:=h7.size;omega));have HL7:=hid hLN;have HLT:=hid (show ts.length<=8000 by have:=h1.out.1;omega);have HTL:=hid (show ts.length<=pre.length from h1.out.1);clear hb6 hLN hRB cR hk5 hbl hdt e1 e2 h1;cases hsy:FJ r with
   | false=>
    rw[hsy] at HST;have FIN:=hid (show Ae Ar (fun k=>k=M+1) N Wb (w5.alloc (.cells #[I J k,I J l1,Q l2] 144))/\∃ v ts,Hid (ts.length<=(pre++[(k,r)]).length/\∀ rest,X=(pre++[(k,r)])++rest->BN X []=BN rest ts)/\Boxed (w5.alloc (.cells #[I J k,I J l1,Q l2] 144)) M 96 v/\CR (w5.alloc (.cells #[I J k,I J l1,Q l2] 144)) (M+1+1) v ts/\Boxed (w5.alloc (.cells #[I J k,I J l1,Q l2] 144)) N 96 (Z O 0 0)/\Boxed (w5.alloc (.cells #[I J k,I J l1,Q l2] 144)) (N+1) 3 (I J 0)/\Boxed (w5.alloc (.cells #[I J k,I J l1,Q l2] 144)) (N+1+1) 27 (I J 0)/\Below N w (w5.alloc (.cells #[I J k,I J l1,Q l2] 144))/\M+1<(w5.alloc (.cells #[I J k,I J l1,Q l2] 144)).heap.size from
     ⟨hk7,v,ts,hid ⟨by have:=HTL.out;simp;omega,fun rest h=>by rw[HST.out rest h];rfl⟩,h2,h3,h4,h5,h6,h7,by simp;omega⟩)
    clear hk7 h2 h3 h4 h5 h6 h7 hX HST
    gi_wp2
    exact FIN.out
   | true=>
    rw[hsy] at HST;obtain⟨i0,hi,hz0,hz1,hz2⟩:=info_parts Aev;have HU:=hid (show Tryz.prog.underlying 96=F (.slice 144) by kernel_rfl);obtain⟨t0,t1,t2,_⟩:=DU hX;have c1:=HC1.out.cell;have f1:=HC1.out.frozen;have hMl:M<w5.heap.size:=by omega
    have hTl:w5.heap.size<(w5.alloc (.cells #[I J k,I J l1,Q l2] 144)).heap.size:=by simp
    have hown0:(w5.alloc (.cells #[I J k,I J l1,Q l2] 144)).ownsRow (M+1+1) 144 3 v ts.length (ts.flatMap BO):=h3
    gi_wp2_with (first
     | (gi_at_builtin;refine wpListIn_append_own _ rfl _ _ 96 rfl (M+1+1) 144 i0 (.agg #[I J 0,I J 0,Q ⟨#[]⟩]) 3 32 HU.out hi hz0 hz1 hz2 rfl (by decide) _ _ _ rfl (hown0.alloc _) ⟨w5.heap.size+1,0,O⟩ 1 1 [I J k,I J l1,Q l2] rfl rfl ?c1 ?c2 ?c3 ?c4 ?c5 ?_))
    case c1=>
     intro j u hj
     match j,hj with
     | 0,hj=>simp at hj;subst hj;simp[Addr.add]
     | 1,hj=>simp at hj;subst hj;simp[Addr.add]
     | 2,hj=>simp at hj;subst hj;simp[Addr.add]
    case c2=>intro u hu;simp at hu;rcases hu with rfl | rfl | rfl<;>rfl
    case c3=>have:=HLT.out;unfold maxLen;omega
    case c4=>have:=HLT.out;omega
    case c5=>simp;omega
    intro v' w9 hown hgrow _;obtain⟨q1,q2,q3,q4,q5,q6⟩:=Agc (C:=fun k=>k=M+1) (N:=N) (M:=M) (B:=M+1+1) (x:=⟨k,l1,l2⟩) (by omega) (by omega) (by simp;omega) (fun j hj=>by omega) h2 h3 hown hgrow;have FIN:=hid (show Ae Ar (fun k=>k=M+1) N Wb (w9.setCell ⟨M,0,O⟩ v')/\∃ v ts,Hid (ts.length<=(pre++[(k,r)]).length/\∀ rest,X=(pre++[(k,r)])++rest->BN X []=BN rest ts)/\Boxed (w9.setCell ⟨M,0,O⟩ v') M 96 v/\CR (w9.setCell ⟨M,0,O⟩ v') (M+1+1) v ts/\Boxed (w9.setCell ⟨M,0,O⟩ v') N 96 (Z O 0 0)/\Boxed (w9.setCell ⟨M,0,O⟩ v') (N+1) 3 (I J 0)/\Boxed (w9.setCell ⟨M,0,O⟩ v') (N+1+1) 27 (I J 0)/\Below N w (w9.setCell ⟨M,0,O⟩ v')/\M+1<(w9.setCell ⟨M,0,O⟩ v').heap.size from
     ⟨hk7.trans q1,v',ts++[⟨k,l1,l2⟩],hid ⟨by have:=HTL.out;simp;omega,fun rest h=>by rw[HST.out rest h];rfl⟩,q2,q3,q6 N _ (by omega) (by omega) h4,q6 (N+1) _ (by omega) (by omega) h5,q6 (N+1+1) _ (by omega) (by omega) h6,q1.below h7 Nr (by omega),Nat.lt_of_lt_of_le (by simp;omega) q1.size⟩)
    obtain⟨g,cap,rfl⟩:∃ g cap,v'=Z (F ⟨g,0,O⟩) (ts.length+1) cap:=by
     rcases hown.2 with ⟨_,h0⟩ | ⟨g,cap,cur,hv,_⟩
     ·omega
     ·exact⟨g,cap,hv⟩
    clear q1 q2 q3 q6 hown hgrow h2 h3 h4 h5 h6 h7 hown0 c1 f1 t0 t1 t2 hX hk7
    gi_wp2
    exact FIN.out
  ·have HF:=hid (show BN X []=(([]:List Sc),(k:Int),AK r) by
    obtain⟨rest,h,_⟩:=HPR.out;rw[h1.out.2 _ h,Xe ht0])
   clear h1 h2 h3;have m1:=Aep;have m2:=Aeg;have n1:=Ac0;have n2:=Acd;rcases MH r with h | h | h
   ·exact absurd h ht0
   ·rw[h] at HF |-;rw[show trV 80=.iface 211 (.agg #[]) from rfl];have hW:=fun wx=>CallsIn.inRound l ((callsIn_wide (n:=0)).2 (ZB wx));clear ht0 h
    gi_wp2_with fail
    refine(hW _).mono ?_;rintro e w5 ⟨rfl,hb6⟩;replace h4:=Ab h4 hb6;replace h5:=Ab h5 hb6;replace h6:=Ab h6 hb6;replace h7:=h7.trans (hb6.mono (by have:=h7.size;omega));have hs6:w4.heap.size<=w5.heap.size:=hb6.size;replace hk5:=hk5.trans (Ae.of_below (C:=fun k=>k=M+1) (n₀:=N) hb6);clear hW hb6;have c2:=h4.cell;have f2:=h4.frozen;have c3:=h5.cell;have f3:=h5.frozen;have c4:=h6.cell;have f4:=h6.frozen;obtain⟨q1,q2,q3,q4⟩:=ET (C:=fun k=>k=M+1) h4 h5 h6 (by omega) (by omega) (by omega) (Z O 0 0) (I J k) (I J 80);have FIN:=hid (Ai (hk5.trans q1) (Ai q2 (Ai q3 (Ai q4 (((h7.setCell (p:=⟨N,0,O⟩) (by simp) (Z O 0 0)).setCell (p:=⟨N+1,0,O⟩) (by simp) (I J k)).setCell (p:=⟨N+1+1,0,O⟩) (by simp;omega) (I J 80))))));clear q1 q2 q3 q4 h4 h5 h6 h7 hk5
    gi_wp2
    exact⟨FIN.out.1,rfl,k,80,HF,FIN.out.2⟩
   ·rw[h] at HF |-;rw[show trV 81=.iface 212 (.agg #[]) from rfl];have hW:=fun wx=>CallsIn.inRound l ((callsIn_wide (n:=0)).2 (Aa7 wx));clear ht0 h
    gi_wp2_with fail
    refine(hW _).mono ?_;rintro e w5 ⟨rfl,hb6⟩;replace h4:=Ab h4 hb6;replace h5:=Ab h5 hb6;replace h6:=Ab h6 hb6;replace h7:=h7.trans (hb6.mono (by have:=h7.size;omega));have hs6:w4.heap.size<=w5.heap.size:=hb6.size;replace hk5:=hk5.trans (Ae.of_below (C:=fun k=>k=M+1) (n₀:=N) hb6);clear hW hb6;have c2:=h4.cell;have f2:=h4.frozen;have c3:=h5.cell;have f3:=h5.frozen;have c4:=h6.cell;have f4:=h6.frozen;obtain⟨q1,q2,q3,q4⟩:=ET (C:=fun k=>k=M+1) h4 h5 h6 (by omega) (by omega) (by omega) (Z O 0 0) (I J k) (I J 81);have FIN:=hid (Ai (hk5.trans q1) (Ai q2 (Ai q3 (Ai q4 (((h7.setCell (p:=⟨N,0,O⟩) (by simp) (Z O 0 0)).setCell (p:=⟨N+1,0,O⟩) (by simp) (I J k)).setCell (p:=⟨N+1+1,0,O⟩) (by simp;omega) (I J 81))))));clear q1 q2 q3 q4 h4 h5 h6 h7 hk5
    gi_wp2
    exact⟨FIN.out.1,rfl,k,81,HF,FIN.out.2⟩
 case done=>
  rintro D W hD ⟨v,ts,h1,h2,h3,h4,h5,h6,h7,h8⟩ hK;obtain⟨A,cap,rfl⟩:∃ A cap,v=Z A ts.length cap:=by
   rcases h3.2 with ⟨hv,h0⟩ | ⟨g,cap,cur,hv,_⟩
   ·exact⟨O,0,by rw[hv,h0]⟩
   ·exact⟨_,cap,hv⟩
  have c2:=h2.cell;have f2:=h2.frozen;have c3:=h4.cell;have f3:=h4.frozen;have c4:=h5.cell;have f4:=h5.frozen;have c5:=h6.cell;have f5:=h6.frozen;have HF:=hid (show BN X []=(ts,0,0) by rw[h1.out.2 [] (by simp)];rfl);clear h1;have hne:M≠N:=by omega
  have hne1:M≠N+1:=by omega
  have hne2:M≠N+1+1:=by omega
  go_wp2;have hK':(((W.setCell ⟨N,0,O⟩ (Z A ts.length cap)).setCell ⟨N+1,0,O⟩ (I J 0)).setCell ⟨N+1+1,0,O⟩ (I J 0)).heap[D]? =F (.deferred (F [])):=(KeepsOthers.setCell _ _ _).same D _ ((KeepsOthers.setCell _ _ _).same D _ ((KeepsOthers.setCell W ⟨N,0,O⟩ _).same D _ hK rfl) rfl) rfl;refine⟨by simp,.inl ⟨_,_,rfl,run_takeDeferred hK',?_⟩⟩;have d1:=(Au (Ag (Ag (h4.set (Z A ts.length cap)) (show N≠N+1 by simp) (I J 0)) (show N≠N+1+1 by simp;omega) (I J 0)) hK' (.deferred O)).cell;have d2:=(Au (Ag ((Ag h5 (show N+1≠N by simp) (Z A ts.length cap)).set (I J 0)) (show N+1≠N+1+1 by simp) (I J 0)) hK' (.deferred O)).cell;have d3:=(Au ((Ag (Ag h6 (show N+1+1≠N by simp;omega) (Z A ts.length cap)) (show N+1+1≠N+1 by simp) (I J 0)).set (I J 0)) hK' (.deferred O)).cell;refine⟨.tuple #[Z A ts.length cap,I J 0,I J 0],by simp[results,Tryz.f48,go_sem,d1,d2,d3],?_⟩;rw[HF.out];refine⟨_,rfl,CR.less (B:=M+1+1) (CR.keep h3 (fun j c hB hj=>?_)) (by omega),?_⟩
  ·refine(World.putObj_heap_other (fun e=>by subst e;rw[hK] at hj;cases hj)).trans ?_;exact(Bh _ ⟨N+1+1,0,O⟩ _ j (fun e=>by have e:j=N+1+1:=e;omega)).trans ((Bh _ ⟨N+1,0,O⟩ _ j (fun e=>by have e:j=N+1:=e;omega)).trans ((Bh W ⟨N,0,O⟩ _ j (fun e=>by have e:j=N:=e;omega)).trans hj))
  ·rw[hN];exact BP (((h7.setCell (p:=⟨N,0,O⟩) (by simp) _).setCell (p:=⟨N+1,0,O⟩) (by simp) _).setCell (p:=⟨N+1+1,0,O⟩) (by simp;omega) _) hK' (by omega) (by omega) _
 case stop=>
  rintro D co pre W hD hpre ⟨rfl,p,e,hx,h3,h4,h5,h6⟩ hK;refine wpIn_wide.2 ?_;go_wp2;refine⟨by simp,.inl ⟨_,_,rfl,run_takeDeferred hK,?_⟩⟩;have d1:=(Au h3 hK (.deferred O)).cell;have d2:=(Au h4 hK (.deferred O)).cell;have d3:=(Au h5 hK (.deferred O)).cell;refine⟨.tuple #[Z O 0 0,I J p,I J e],by simp[results,Tryz.f48,go_sem,d1,d2,d3],?_⟩;rw[hx.out];refine⟨_,rfl,CR.nil _ _,?_⟩;rw[hN];exact BP h6 hK (by omega) (by omega) _
theorem Xz (s:ByteArray) (w:Y) (hT:Bf w) (hL:MB w):Calls Tryz.prog 48 #[Q s] w (LY (Al s.data.toList) w):=by
 unfold Al;rw[<- Lib.size_eq];by_cases h8:8000<s.size
 ·rw[if_pos h8];exact TQ s w h8
 ·rw[if_neg h8];cases hv:validD s.data.toList with
  | false=>exact Wx s w h8 hv hT
  | true=>exact SR s w h8 hv hT hL
end
section
abbrev Env:=List (Nat×Value)
def lk:Env->Nat->Option Value
 | [],_=>O
 | (t,v)::l,n=>bif Nat.beq t n then F v else lk l n
def ev (l:Env):Operand->Option Value
 | .tmp t=>lk l t
 | .const v=>F v
 | .global g=>F (.pointer (F ⟨g,0,O⟩))
 | .func f=>F (.func (.func f) #[] #[])
def evs (l:Env):List Operand->Option (List Value)
 | []=>F []
 | x::xs=>match ev l x with
  | some v=>match evs l xs with
   | some vs=>F (v::vs)
   | none=>O
  | none=>O
def EV (ρ:Operand->Value):List Operand->List Value->Prop
 | x::xs,v::vs=>ρ x=v/\EV ρ xs vs
 | _,_=>True
structure Kn (n:Nat) (ds:List Deferred) (l:Env) (a:Act):Prop where
 size:a.tmps.size=n
 defers:a.defers=ds
 get:∀ t v,lk l t=F v->a.tmps.getD t undef=v
section
variable {n:Nat} {ds:List Deferred} {l l':Env} {a:Act}
theorem Kn.ev (h:Kn n ds l a):∀ {x:Operand} {v:Value},ev l x=F v->a.eval x=v
 | .tmp t,v,e=>h.get t v e
 | .const v,_,e=>by cases e;rfl
 | .global g,_,e=>by cases e;rfl
 | .func f,_,e=>by cases e;rfl
theorem Kn.evs (h:Kn n ds l a):∀ (xs:List Operand) (vs:List Value),evs l xs=F vs->EV a.eval xs vs/\xs.map a.eval=vs
 | [],vs,e=>by cases e;exact⟨trivial,rfl⟩
 | x::xs,vs,e=>by
  unfold Go.Proofs.YtdpppepmkeinaaaGreatDoor.evs at e;split at e
  ·rename_i v hv;split at e
   ·rename_i us hu;cases e
    obtain⟨h1,h2⟩:=h.evs xs us hu;exact⟨⟨h.ev hv,h1⟩,by rw[List.map_cons,h.ev hv,h2]⟩
   ·cases e
  ·cases e
theorem Agv {t m:Nat} (h:¬t=m):Nat.beq t m=false:=by
 cases hb:Nat.beq t m
 ·rfl
 ·exact absurd (Nat.eq_of_beq_eq_true hb) h
theorem KJ (t m:Nat) (v:Value) (l:Env):lk ((t,v)::l) m=if t=m then F v else lk l m:=by
 show(bif Nat.beq t m then F v else lk l m)=_;by_cases h:t=m
 ·subst h;simp[Nat.beq_refl]
 ·rw[if_neg h,Agv h];rfl
theorem Kn.put (h:Kn n ds l a) {d:Nat} (hd:d<n) (v:Value):Kn n ds ((d,v)::l) (a.put (F d) v):=by
 refine⟨by simp[Act.put,h.size],by simp[Act.put,h.defers],fun t u hu=>?_⟩;rw[KJ] at hu;have hs:d<a.tmps.size:=by rw[h.size];exact hd
 split at hu
 ·rename_i e;subst e;cases hu
  simp[Act.put,hs]
 ·rename_i e;have:=h.get t u hu;simp only[Act.put,Array.getD_eq_getD_getElem?] at this |-;rw[Array.getElem?_setIfInBounds_ne e];exact this
theorem Kn.sub (h:Kn n ds l a) (hl:∀ t v,lk l' t=F v->lk l t=F v):Kn n ds l' a:=⟨h.size,h.defers,fun t v e=>h.get t v (hl t v e)⟩
end
def Tj (l:Env):Env->Prop
 | []=>True
 | (t,v)::r=>lk l t=F v/\Tj l r
theorem Tj.lk {l:Env}:∀ {r:Env},Tj l r->∀ t v,lk r t=F v->lk l t=F v
 | [],_,t,v,e=>by cases e
 | (t0,v0)::r,h,t,v,e=>by
  rw[KJ] at e;split at e
  ·rename_i e0;subst e0;cases e;exact h.1
  ·exact Tj.lk h.2 t v e
inductive Je where
 | c (x:Code)
 | b (id:Nat)
 | e (Iz:Act->Y->Prop)
section
variable (P:Program) (Fz:Fence) (Qr:Exit->Act->Y->Prop)
def td:Option Nat->List Je->Act->Y->Prop
 | none,[],a,w=>Qr .normal a w
 | some i,[],a,w=>Qr (.exit i) a w
 | none,.c x::k,a,w=>x.wpIn Fz 0 P (fun e a w=>match e with | .normal=>td O k a w | .exit i=>td (F i) k a w | e=>Qr e a w) a w
 | none,.b _::k,a,w=>td O k a w
 | none,.e Iz::_,a,w=>Iz a w
 | some i,.b j::k,a,w=>if j=i then td O k a w else td (F i) k a w
 | some i,.c _::k,a,w=>td (F i) k a w
 | some i,.e _::k,a,w=>td (F i) k a w
def pk (k:List Je):Exit->Act->Y->Prop
 | .normal,a,w=>td P Fz Qr O k a w
 | .exit i,a,w=>td P Fz Qr (F i) k a w
 | e,a,w=>Qr e a w
theorem KO (x:Code) (k:List Je) (a:Act) (w:Y):td P Fz Qr O (.c x::k) a w↔x.wpIn Fz 0 P (pk P Fz Qr k) a w:=by
 have:(fun(e:Exit) a w=>match e with | .normal=>td P Fz Qr O k a w | .exit i=>td P Fz Qr (F i) k a w | e=>Qr e a w)=pk P Fz Qr k:=by
  funext e a w;cases e<;>rfl
 unfold td;rw[this]
end
inductive Stp where
 | reg (id:Nat) (ops:Array Oper) (d:Bool) (k:List Je)
 | cond (c:Operand) (x y:Code) (k:List Je)
 | loop (x:Code) (k:List Je)
 | rf (f:Operand) (ps:Array Tmp) (x y:Code) (k:List Je)
 | ret | fin | non
 | ex (i:Nat)
 | out (Iz:Act->Y->Prop)
def G8:Nat->Option Nat->List Je->Stp
 | 0,_,_=>.non
 | _+1,O,[]=>.fin
 | _+1,F i,[]=>.ex i
 | n+1,O,.c x::k=>match x with
  | .skip=>G8 n O k
  | .region id ops d=>.reg id ops d k
  | .seq x y=>G8 n O (.c x:: .c y::k)
  | .cond c x y=>.cond c x y k
  | .block id x=>G8 n O (.c x:: .b id::k)
  | .loop x=>.loop x k
  | .rangeFunc f ps x y=>.rf f ps x y k
  | .exit id=>G8 n (F id) k
  | .label _=>G8 n O k
  | .ret=>.ret
  | _=>.non
 | n+1,O,.b _::k=>G8 n O k
 | _+1,O,.e Iz::_=>.out Iz
 | n+1,F i,.b j::k=>bif Nat.beq j i then G8 n O k else G8 n (F i) k
 | n+1,F i,.c _::k=>G8 n (F i) k
 | n+1,F i,.e _::k=>G8 n (F i) k
section
variable {P:Program} {Fz:Fence} {Qr:Exit->Act->Y->Prop}
def atS (P:Program) (Fz:Fence) (Qr:Exit->Act->Y->Prop):Stp->Act->Y->Prop
 | .reg id ops d k,a,w=>(Code.region id ops d).wpIn Fz 0 P (pk P Fz Qr k) a w
 | .cond c x y k,a,w=>(Code.cond c x y).wpIn Fz 0 P (pk P Fz Qr k) a w
 | .loop x k,a,w=>(Code.loop x).wpIn Fz 0 P (pk P Fz Qr k) a w
 | .rf f ps x y k,a,w=>(Code.rangeFunc f ps x y).wpIn Fz 0 P (pk P Fz Qr k) a w
 | .ret,a,w=>Qr .ret a w
 | .fin,a,w=>Qr .normal a w
 | .ex i,a,w=>Qr (.exit i) a w
 | .non,_,_=>False
 | .out Iz,a,w=>Iz a w
theorem B1:∀ (n:Nat) (o:Option Nat) (k:List Je) (a:Act) (w:Y),atS P Fz Qr (G8 n o k) a w->td P Fz Qr o k a w
 | 0,_,_,_,_,h=>by cases h
 | _+1,O,[],a,w,h=>h
 | _+1,F _,[],a,w,h=>h
 | n+1,O,.c x::k,a,w,h=>by
  rw[KO];unfold G8 at h;split at h
  ·exact wpIn_skip (B1 n _ _ _ _ h)
  ·exact h
  ·rename_i x y;have h1:=B1 n _ _ _ _ h;rw[KO] at h1;refine wpIn_seq (wpIn_mono h1 fun e a w q=>?_);cases e with
   | normal=>exact(KO P Fz Qr y k a w).1 q
   | exit i=>exact q
   | _=>exact q
  ·exact h
  ·rename_i id x;have h1:=B1 n _ _ _ _ h;rw[KO] at h1;refine wpIn_block (wpIn_mono h1 fun e a w q=>?_);cases e with
   | exit i=>
    have q':td P Fz Qr (F i) (.b id::k) a w:=q;unfold td at q';show if i=id then _ else _
    by_cases hi:i=id
    ·rw[if_pos hi];rw[if_pos hi.symm] at q';exact q'
    ·rw[if_neg hi];rw[if_neg (fun e=>hi e.symm)] at q';exact q'
   | normal=>exact q
   | _=>exact q
  ·exact h
  ·exact h
  ·exact wpIn_exit (B1 n _ _ _ _ h)
  ·exact Go.wpIn_label (B1 n _ _ _ _ h)
  ·exact wpIn_ret h
  ·cases h
 | n+1,O,.b _::k,a,w,h=>by unfold td;exact B1 n O k a w h
 | _+1,O,.e Iz::_,a,w,h=>by unfold td;exact h
 | n+1,F i,.b j::k,a,w,h=>by
  unfold G8 at h;unfold td;by_cases e:j=i
  ·subst e;rw[if_pos rfl];simp only[Nat.beq_refl,cond_true] at h;exact B1 n O k a w h
  ·rw[if_neg e];have:Nat.beq j i=false:=by
    cases hb:Nat.beq j i
    ·rfl
    ·exact absurd (Nat.eq_of_beq_eq_true hb) e
   simp only[this,cond_false] at h;exact B1 n _ k a w h
 | n+1,F i,.c _::k,a,w,h=>by unfold td;exact B1 n _ k a w h
 | n+1,F i,.e _::k,a,w,h=>by unfold td;exact B1 n _ k a w h
end
def V (P:Program) (Fz:Fence) (Qr:Exit->Act->Y->Prop) (n:Nat) (ds:List Deferred) (k:List Je) (S:Y->Prop) (l:Env):Prop:=∀ a w,Kn n ds l a->S w->td P Fz Qr O k a w
section
variable {P:Program} {Fz:Fence} {Qr:Exit->Act->Y->Prop} {n:Nat} {ds:List Deferred} {k k':List Je} {S S':Y->Prop} {l l':Env}
theorem V.pre (h:V P Fz Qr n ds k S' l) (hs:∀ w,S w->S' w):V P Fz Qr n ds k S l:=fun a w ha hw=>h a w ha (hs w hw)
theorem V.if {c:Operand} {x y:Code} {t:Bool} (ht:t=true->V P Fz Qr n ds (.c x::k') S l) (hf:t=false->V P Fz Qr n ds (.c y::k') S l) (h:G8 400 O k=.cond c x y k':=by rfl) (hc:ev l c=F (.bool t):=by rfl):V P Fz Qr n ds k S l:=fun a w ha hw=>by
 refine B1 400 _ _ _ _ ?_;rw[h];exact wpIn_cond_split (ha.ev hc) (fun e=>(KO ..).1 (ht e a w ha hw)) (fun e=>(KO ..).1 (hf e a w ha hw))
theorem V.ifp {c:Operand} {x y:Code} {p:Prop} [Decidable p] (ht:p->V P Fz Qr n ds (.c x::k') S l) (hf:¬p->V P Fz Qr n ds (.c y::k') S l) (h:G8 400 O k=.cond c x y k':=by rfl) (hc:ev l c=F (.bool (decide p)):=by rfl):V P Fz Qr n ds k S l:=
 V.if (fun e=>ht (of_decide_eq_true e)) (fun e=>hf (of_decide_eq_false e)) h hc
theorem V.tt {c:Operand} {x y:Code} {t:Bool} (e:t=true) (h:G8 400 O k=.cond c x y k':=by rfl) (hc:ev l c=F (.bool t):=by rfl):(V P Fz Qr n ds (.c x::k') S l)->V P Fz Qr n ds k S l:=fun ht=>
 V.if (fun _=>ht) (fun e'=>by rw[e] at e';cases e') h hc
theorem V.ff {c:Operand} {x y:Code} {t:Bool} (e:t=false) (h:G8 400 O k=.cond c x y k':=by rfl) (hc:ev l c=F (.bool t):=by rfl):(V P Fz Qr n ds (.c y::k') S l)->V P Fz Qr n ds k S l:=fun hf=>
 V.if (fun e'=>by rw[e] at e';cases e') (fun _=>hf) h hc
theorem V.at {st:Stp} (h:G8 400 O k=st) (hq:∀ a w,Kn n ds l a->S w->atS P Fz Qr st a w):V P Fz Qr n ds k S l:=fun a w ha hw=>B1 400 _ _ _ _ (by rw[h];exact hq a w ha hw)
theorem V.out {Iz:Act->Y->Prop} (hq:∀ a w,Kn n ds l a->S w->Iz a w) (h:G8 400 O k=.out Iz:=by rfl):V P Fz Qr n ds k S l:=V.at h hq
def agn {ι:Type} (n:Nat) (ds:List Deferred) (ok:ι->Prop) (Si:ι->Y->Prop) (li:ι->Env) (μ:ι->Nat) (m:Nat) (a:Act) (w:Y):Prop:=∃ j,ok j/\μ j<m/\Kn n ds (li j) a/\Si j w
theorem V.loop {ι:Type} {x:Code} (ok:ι->Prop) (Si:ι->Y->Prop) (li:ι->Env) (μ:ι->Nat) (i0:ι) (hi:ok i0) (h0:∀ w,S w->Si i0 w) (hl:Tj l (li i0))
  (hr:∀ i,ok i->V P Fz Qr n ds (.c x:: .e (agn n ds ok Si li μ (μ i))::k') (Si i) (li i)) (h:G8 400 O k=.loop x k':=by rfl):V P Fz Qr n ds k S l:=V.at h fun a w ha hw=>by
 refine wpIn_loop_ghost (fun m a w=>∃ i,ok i/\μ i=m/\Kn n ds (li i) a/\Si i w) (μ i0) ⟨i0,hi,rfl,ha.sub hl.lk,h0 w hw⟩ ?_;rintro m a w ⟨i,hi,rfl,ha,hw⟩;refine wpIn_mono ((KO ..).1 (hr i hi a w ha hw)) fun e a' w' q=>?_;cases e with
 | normal=>
  obtain⟨j,h0,h1,h2,h3⟩:=q;exact⟨μ j,h1,j,h0,rfl,h2,h3⟩
 | exit i=>exact q
 | _=>exact q
theorem V.again {ι:Type} {ok:ι->Prop} {li:ι->Env} {Si:ι->Y->Prop} {m:Nat} {μ:ι->Nat} (j:ι) (h:G8 400 O k=.out (agn n ds ok Si li μ m):=by rfl) (hj:ok j:=by(try dsimp only);omega) (hm:μ j<m:=by(try dsimp only);omega) (hl:Tj l (li j):=by repeat (first | exact trivial | refine⟨rfl,?_⟩)) (hs:∀ w,S w->Si j w:=by exact fun w h=>h.sel):V P Fz Qr n ds k S l:=
 V.at h fun a w ha hw=>⟨j,hj,hm,ha.sub hl.lk,hs w hw⟩
end
end
end Go.Proofs.YtdpppepmkeinaaaGreatDoor
